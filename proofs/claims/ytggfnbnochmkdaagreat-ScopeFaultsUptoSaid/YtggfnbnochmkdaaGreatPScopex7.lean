/- A text of this claim, cut to what its theorem reaches (wip/py/stage2.py). -/
import Derived.Test.YtggfnbnochmkdaaGreatPScopex0
namespace Go.Proofs.YtggfnbnochmkdaaGreat.PScope
open Go.RowKit Go.Proofs.YtggfnbnochmkdaaGreatW.PrintWords Go.Proofs.YtggfnbnochmkdaaGreatW.PrintLast Go.Proofs.YtggfnbnochmkdaaGreatW.PrintMore
attribute [local go_sem] max2_int min2_int max_two min_two max_three min_three max_four min_four
set_option linter.unusedVariables false
set_option linter.unusedSimpArgs false
def penduleref05_Node.l0 : Nat → ByteArray → Int → List (S38) → List (S35) → Option (Int × Bool)
 | 0, _, _, _, _ => none
 | k + 1, x1, x6, x248000, x248001 => if x6 < (x248001.length : Int) then (if 0 ≤ x6 then (if ((rd_T35 x248001 x6).f0).toList = x1.toList then (some (x6, true)) else (penduleref05_Node.l0 k x1 (wrap64 (x6 + 1)) x248000 x248001)) else (none)) else (some (0, false))
def penduleref05_Node.f (k : Nat) (l0_0 : List (S38)) (l0_1 : List (S35)) (a1 : ByteArray) : Option (Int × Bool) := penduleref05_Node.l0 k a1 0 l0_0 l0_1
theorem penduleref05_Node.mono_l : ∀ k, (∀ y0 y1 y2 y3, LeO (penduleref05_Node.l0 k y0 y1 y2 y3) (penduleref05_Node.l0 (k + 1) y0 y1 y2 y3))
 | 0 => fun _ _ _ _ r h => by simp [penduleref05_Node.l0] at h
 | k + 1 => by
   have ih0 := penduleref05_Node.mono_l k
   · intro y0 y1 y2 y3
     unfold penduleref05_Node.l0
     repeat' first
     | (with_reducible exact ih0 _ _ _ _)
     | (with_reducible exact LeO.refl _)
     | (with_reducible exact LeO.none _)
     | (with_reducible refine LeO.ite ?_ ?_)
     | (with_reducible refine LeO.bind ?_ (fun _ => ?_))
     | exact ih0 _ _ _ _
     | exact LeO.none _
     | refine LeO.ite ?_ ?_
     | refine LeO.bind ?_ (fun _ => ?_)
theorem penduleref05_Node.mono : ∀ a0 a1 a2 k, LeO (penduleref05_Node.f k a0 a1 a2) (penduleref05_Node.f (k + 1) a0 a1 a2) := by
 intro a0 a1 a2 k
 have ih0 := penduleref05_Node.mono_l k
 unfold penduleref05_Node.f
 repeat' first
     | (with_reducible exact ih0 _ _ _ _)
     | (with_reducible exact LeO.refl _)
     | (with_reducible exact LeO.none _)
     | (with_reducible refine LeO.ite ?_ ?_)
     | (with_reducible refine LeO.bind ?_ (fun _ => ?_))
     | exact ih0 _ _ _ _
     | exact LeO.none _
     | refine LeO.ite ?_ ?_
     | refine LeO.bind ?_ (fun _ => ?_)
set_option maxHeartbeats 8000000 in
set_option maxRecDepth 100000 in
theorem penduleref05_Node.calls (k : Nat) (A0_0 : Option Addr) (c0_0 : Nat) (l0_0 : List (S38)) (A0_1 : Option Addr) (c0_1 : Nat) (l0_1 : List (S35)) (a1 : ByteArray) (r1 : Int) (r2 : Bool) (w : World) (hr0_0 : Kd.C k38 w A0_0 l0_0.length l0_0) (hc0_0 : l0_0.length ≤ c0_0) (hr0_1 : Kd.C k35 w A0_1 l0_1.length l0_1) (hc0_1 : l0_1.length ≤ c0_1) (h : penduleref05_Node.f k l0_0 l0_1 a1 = some (r1, r2)) :
   Calls Tryz.prog 57 #[.agg #[.slice A0_0 l0_0.length c0_0, .slice A0_1 l0_1.length c0_1], .string a1] w fun e w' => e = .returned (.tuple #[.int .i64 r1, .bool r2]) ∧ Below w.heap.size w w' := by
 have hu25 := Tryz.underlying25
 have HR0_0 := Aside0.mk hr0_0
 have HC0_0 := Aside0.mk hc0_0
 clear hr0_0 hc0_0
 have HR0_1 := Aside0.mk hr0_1
 have HC0_1 := Aside0.mk hc0_1
 clear hr0_1 hc0_1
 have HB := Aside0.mk (Below.refl w.heap.size w)
 have H : (penduleref05_Node.l0 k a1 0 l0_0 l0_1) = some (r1, r2) := h
 clear h
 have H' := Aside0.mk H
 clear H
 go_enter Tryz.func57, Tryz.ntmps57
 go_wp2_with (first | ((with_reducible refine gate_dst (N := 2) rfl ?_); refine box_event ?hg (N := 2) ?hd (cs := #[.slice A0_0 l0_0.length c0_0, .slice A0_1 l0_1.length c0_1]) (t := 25) ?hr ?_; (case hd => rfl); (case hg => rfl); (case hr => first | (go_simp; done) | (go_simp; rfl)); intro gb247 hg w3 hbox hb; have n0_ := Aside0.mk (below_step (by repeat (first | (with_reducible first | exact HB.out | apply below_alloc | apply pw_below_drewN | apply below_drew1) | exact HB.out)) hb); have n1_ := Aside0.mk (hbox); have n2_ := Aside0.mk ((by rw [hg]; exact (below_size (by repeat (first | (with_reducible first | exact HB.out | apply below_alloc | apply pw_below_drewN | apply below_drew1) | exact HB.out))) : w.heap.size ≤ gb247)); have n3_ := Aside0.mk ((by rw [hg]; exact (below_size (by repeat (first | (with_reducible first | exact HB.out | apply below_alloc | apply pw_below_drewN | apply below_drew1) | exact HB.out))) : w.heap.size ≤ gb247)); clear HB; have HB := n0_; have BK247 := n1_; have GW247 := n2_; have GE247 := n3_; clear n0_ n1_ n2_ n3_; clear hb hbox hg))
 go_loopg [6] k (fun kq v6 w' => ∃ (x6_1 : Int), v6 = .int .i64 x6_1 ∧ Aside0 (penduleref05_Node.l0 kq a1 x6_1 l0_0 l0_1 = some (r1, r2)) ∧ Aside0 (kq ≤ k) ∧ Aside0 (w'.heap[gb247]? = some (.cells #[(.slice A0_0 l0_0.length c0_0), (.slice A0_1 l0_1.length c0_1)] 25 (0, 0))) ∧ Aside0 (Below w.heap.size w w'))
 case atStart => exact ⟨(0), (by first | rfl | (simp; done) | (simp [*]; done)), H', ⟨Nat.le_refl _⟩, ⟨by (with_reducible repeat (first | refine blk_drewN ?_ _ | refine blk_drew ?_ | refine blk_alloc ?_ _)); exact BK247.out⟩, ⟨by repeat (first | (with_reducible first | exact HB.out | apply below_alloc | apply pw_below_drewN | apply below_drew1 | refine below_set ?_ GE247.out) | exact HB.out)⟩⟩
 case round =>
   clear H'
   try clear p2
   obtain ⟨x6_1, rfl, HA, HK1, BK247, HB⟩ := hrel
   cases gk with
   | zero => exact absurd HA.out (by simp [penduleref05_Node.l0])
   | succ k1 =>
     have H := HA.out
     clear HA
     simp only [penduleref05_Node.l0] at H
     by_cases c4 : x6_1 < (l0_1.length : Int)
     · rw [if_pos c4] at H
       have c4b0 : decide (x6_1 < (l0_1.length : Int)) = true := decide_eq_true c4
       clear c4
       by_cases c5 : 0 ≤ x6_1
       · rw [if_pos c5] at H
         have c5b0 : decide (0 ≤ x6_1) = true := decide_eq_true c5
         clear c5
         by_cases c6 : ((rd_T35 l0_1 x6_1).f0).toList = a1.toList
         · rw [if_pos c6] at H
           have c6b0 : (((rd_T35 l0_1 x6_1).f0).toList == a1.toList) = true := beq_iff_eq.mpr c6
           have c6b1 : (((rd_T35 l0_1 x6_1).f0).toList != a1.toList) = false := bne_eq_false_iff_eq.mpr c6
           clear c6
           simp only [Option.some.injEq, Prod.mk.injEq] at H
           obtain ⟨rfl, rfl⟩ := H
           have hcz7_0 : wr.cell? ⟨gb247, 0, none⟩ = some (.slice A0_0 l0_0.length c0_0) := (blk_cell BK247.out 0).trans rfl
           have hcz7_1 : wr.cell? ⟨gb247, 1, none⟩ = some (.slice A0_1 l0_1.length c0_1) := (blk_cell BK247.out 1).trans rfl
           have hfz7_0 := blk_frozen BK247.out 0
           have hfz7_1 := blk_frozen BK247.out 1
           have p248 : 0 ≤ (x6_1 : Int) := of_decide_eq_true (by first | (with_reducible assumption) | assumption)
           have q248 : x6_1 < (l0_1.length : Int) := of_decide_eq_true (by first | (with_reducible assumption) | assumption)
           obtain ⟨ad248, A248_1, c248_1, A248_2, c248_2, A248_3, c248_3, A248_4, c248_4, e248, hx248_0, hx248_1, hx248_2, hx248_3, hx248_4, hl248_1, hi248_1, hl248_2, hi248_2, hl248_3, hi248_3, hl248_4, hi248_4⟩ := at_T35 HR0_1.out x6_1 p248 q248
           cases e248
           replace hx248_0 := (HB.out.cell (World.block_lt_of_cell? w _ hx248_0)).trans hx248_0
           replace hx248_1 := (HB.out.cell (World.block_lt_of_cell? w _ hx248_1)).trans hx248_1
           replace hx248_2 := (HB.out.cell (World.block_lt_of_cell? w _ hx248_2)).trans hx248_2
           replace hx248_3 := (HB.out.cell (World.block_lt_of_cell? w _ hx248_3)).trans hx248_3
           replace hx248_4 := (HB.out.cell (World.block_lt_of_cell? w _ hx248_4)).trans hx248_4
           have HR248_1 := Aside0.mk hi248_1
           have HC248_1 := Aside0.mk hl248_1
           clear hi248_1 hl248_1
           have HR248_2 := Aside0.mk hi248_2
           have HC248_2 := Aside0.mk hl248_2
           clear hi248_2 hl248_2
           have HR248_3 := Aside0.mk hi248_3
           have HC248_3 := Aside0.mk hl248_3
           clear hi248_3 hl248_3
           have HR248_4 := Aside0.mk hi248_4
           have HC248_4 := Aside0.mk hl248_4
           clear hi248_4 hl248_4
           replace p248 := eq_true p248
           replace q248 := eq_true q248
           go_wp2
           go_ret2
           exact ⟨by first | rfl | (simp [errW_none, errW_some] <;> rfl) | (simp [*, errW_none, errW_some] <;> rfl), by repeat (first | (with_reducible first | exact HB.out | apply below_alloc | apply pw_below_drewN | apply below_drew1 | refine below_set ?_ GE247.out) | exact HB.out)⟩
         · rw [if_neg c6] at H
           have c6b0 : (((rd_T35 l0_1 x6_1).f0).toList == a1.toList) = false := beq_eq_false_iff_ne.mpr c6
           have c6b1 : (((rd_T35 l0_1 x6_1).f0).toList != a1.toList) = true := bne_iff_ne.mpr c6
           have H' := Aside0.mk H
           clear H
           have hcz8_0 : wr.cell? ⟨gb247, 0, none⟩ = some (.slice A0_0 l0_0.length c0_0) := (blk_cell BK247.out 0).trans rfl
           have hcz8_1 : wr.cell? ⟨gb247, 1, none⟩ = some (.slice A0_1 l0_1.length c0_1) := (blk_cell BK247.out 1).trans rfl
           have hfz8_0 := blk_frozen BK247.out 0
           have hfz8_1 := blk_frozen BK247.out 1
           have p248 : 0 ≤ (x6_1 : Int) := of_decide_eq_true (by first | (with_reducible assumption) | assumption)
           have q248 : x6_1 < (l0_1.length : Int) := of_decide_eq_true (by first | (with_reducible assumption) | assumption)
           obtain ⟨ad248, A248_1, c248_1, A248_2, c248_2, A248_3, c248_3, A248_4, c248_4, e248, hx248_0, hx248_1, hx248_2, hx248_3, hx248_4, hl248_1, hi248_1, hl248_2, hi248_2, hl248_3, hi248_3, hl248_4, hi248_4⟩ := at_T35 HR0_1.out x6_1 p248 q248
           cases e248
           replace hx248_0 := (HB.out.cell (World.block_lt_of_cell? w _ hx248_0)).trans hx248_0
           replace hx248_1 := (HB.out.cell (World.block_lt_of_cell? w _ hx248_1)).trans hx248_1
           replace hx248_2 := (HB.out.cell (World.block_lt_of_cell? w _ hx248_2)).trans hx248_2
           replace hx248_3 := (HB.out.cell (World.block_lt_of_cell? w _ hx248_3)).trans hx248_3
           replace hx248_4 := (HB.out.cell (World.block_lt_of_cell? w _ hx248_4)).trans hx248_4
           have HR248_1 := Aside0.mk hi248_1
           have HC248_1 := Aside0.mk hl248_1
           clear hi248_1 hl248_1
           have HR248_2 := Aside0.mk hi248_2
           have HC248_2 := Aside0.mk hl248_2
           clear hi248_2 hl248_2
           have HR248_3 := Aside0.mk hi248_3
           have HC248_3 := Aside0.mk hl248_3
           clear hi248_3 hl248_3
           have HR248_4 := Aside0.mk hi248_4
           have HC248_4 := Aside0.mk hl248_4
           clear hi248_4 hl248_4
           replace p248 := eq_true p248
           replace q248 := eq_true q248
           go_wp2
           go_roundg k1
           case measure => have := HK1.out; omega
           case rel => exact ⟨(wrap64 (x6_1 + 1)), (by first | rfl | (simp; done) | (simp [*]; done)), H', ⟨by have := HK1.out; omega⟩, ⟨by (with_reducible repeat (first | refine blk_drewN ?_ _ | refine blk_drew ?_ | refine blk_alloc ?_ _)); exact BK247.out⟩, ⟨by repeat (first | (with_reducible first | exact HB.out | apply below_alloc | apply pw_below_drewN | apply below_drew1 | refine below_set ?_ GE247.out) | exact HB.out)⟩⟩
       · rw [if_neg c5] at H
         exact absurd H (by simp)
     · rw [if_neg c4] at H
       have c4b0 : decide (x6_1 < (l0_1.length : Int)) = false := decide_eq_false c4
       clear c4
       simp only [Option.some.injEq, Prod.mk.injEq] at H
       obtain ⟨rfl, rfl⟩ := H
       have hcz9_0 : wr.cell? ⟨gb247, 0, none⟩ = some (.slice A0_0 l0_0.length c0_0) := (blk_cell BK247.out 0).trans rfl
       have hcz9_1 : wr.cell? ⟨gb247, 1, none⟩ = some (.slice A0_1 l0_1.length c0_1) := (blk_cell BK247.out 1).trans rfl
       have hfz9_0 := blk_frozen BK247.out 0
       have hfz9_1 := blk_frozen BK247.out 1
       go_wp2
       go_ret2
       exact ⟨by first | rfl | (simp [errW_none, errW_some] <;> rfl) | (simp [*, errW_none, errW_some] <;> rfl), by repeat (first | (with_reducible first | exact HB.out | apply below_alloc | apply pw_below_drewN | apply below_drew1 | refine below_set ?_ GE247.out) | exact HB.out)⟩
mutual
def penduleref05_States.l0 : Nat → Int → Int → List ByteArray → Int → List (S38) → List (S35) → Option (List ByteArray)
 | 0, _, _, _, _, _, _ => none
 | k + 1, x1, x2, x7, x8, x261000, x261001 => if x8 ≤ x1 then (penduleref05_States.j1 k x1 x2 x7 x8 (decide (x8 < (x261001.length : Int))) x261000 x261001) else (penduleref05_States.j1 k x1 x2 x7 x8 false x261000 x261001)
def penduleref05_States.j1 : Nat → Int → Int → List ByteArray → Int → Bool → List (S38) → List (S35) → Option (List ByteArray)
 | 0, _, _, _, _, _, _, _ => none
 | k + 1, x1, x2, x7, x8, x21, x261000, x261001 => if x21 = true then (penduleref05_States.l1 k x1 x2 x7 x8 0 x261000 x261001) else (some x7)
def penduleref05_States.l1 : Nat → Int → Int → List ByteArray → Int → Int → List (S38) → List (S35) → Option (List ByteArray)
 | 0, _, _, _, _, _, _, _ => none
 | k + 1, x1, x2, x7, x8, x9, x261000, x261001 => if 0 ≤ x8 then (if x8 < (x261001.length : Int) then (if x9 < (((rd_T35 x261001 x8).f4).length : Int) then (if x8 = x1 then (penduleref05_States.j3 k x1 x2 x7 x8 x9 (decide (x9 ≥ x2)) x261000 x261001) else (penduleref05_States.j3 k x1 x2 x7 x8 x9 false x261000 x261001)) else (penduleref05_States.l0 k x1 x2 x7 (wrap64 (x8 + 1)) x261000 x261001)) else (none)) else (none)
def penduleref05_States.j3 : Nat → Int → Int → List ByteArray → Int → Int → Bool → List (S38) → List (S35) → Option (List ByteArray)
 | 0, _, _, _, _, _, _, _, _ => none
 | k + 1, x1, x2, x7, x8, x9, x42, x261000, x261001 => if x42 = true then (penduleref05_States.l0 k x1 x2 x7 (wrap64 (x8 + 1)) x261000 x261001) else (if 0 ≤ x8 then (if x8 < (x261001.length : Int) then (if 0 ≤ x9 then (if x9 < (((rd_T35 x261001 x8).f4).length : Int) then (penduleref05_States.l2 k x1 x2 x7 x8 x9 ((rd_T47 ((rd_T35 x261001 x8).f4) x9).f1) 0 x261000 x261001) else (none)) else (none)) else (none)) else (none))
def penduleref05_States.l2 : Nat → Int → Int → List ByteArray → Int → Int → List (S65) → Int → List (S38) → List (S35) → Option (List ByteArray)
 | 0, _, _, _, _, _, _, _, _, _ => none
 | k + 1, x1, x2, x7, x8, x9, x10, x11, x261000, x261001 => if x11 < (x10.length : Int) then (if 0 ≤ x11 then (if x7.length < 8796093022208 then (penduleref05_States.l2 k x1 x2 (x7 ++ [(rd_T65 x10 x11).f0]) x8 x9 x10 (wrap64 (x11 + 1)) x261000 x261001) else (none)) else (none)) else (penduleref05_States.l1 k x1 x2 x7 x8 (wrap64 (x9 + 1)) x261000 x261001)
end
def penduleref05_States.f (k : Nat) (l0_0 : List (S38)) (l0_1 : List (S35)) (a1 : Int) (a2 : Int) : Option (List ByteArray) := penduleref05_States.l0 k a1 a2 ([] : List ByteArray) 0 l0_0 l0_1
set_option maxHeartbeats 8000000 in
set_option maxRecDepth 100000 in
theorem penduleref05_States.calls (k : Nat) (A0_0 : Option Addr) (c0_0 : Nat) (l0_0 : List (S38)) (A0_1 : Option Addr) (c0_1 : Nat) (l0_1 : List (S35)) (a1 : Int) (a2 : Int) (r : List ByteArray) (w : World) (hr0_0 : Kd.C k38 w A0_0 l0_0.length l0_0) (hc0_0 : l0_0.length ≤ c0_0) (hr0_1 : Kd.C k35 w A0_1 l0_1.length l0_1) (hc0_1 : l0_1.length ≤ c0_1) (h : penduleref05_States.f k l0_0 l0_1 a1 a2 = some r) :
   Calls Tryz.prog 81 #[.agg #[.slice A0_0 l0_0.length c0_0, .slice A0_1 l0_1.length c0_1], .int .i64 a1, .int .i64 a2] w fun e w' => ∃ v0_ : Value, e = .returned (v0_) ∧ Kd.R Kd.string 9 w' w.heap.size (fun _ => True) v0_ r ∧ Below w.heap.size w w' := by
 have hu25 := Tryz.underlying25
 have HR0_0 := Aside0.mk hr0_0
 have HC0_0 := Aside0.mk hc0_0
 clear hr0_0 hc0_0
 have HR0_1 := Aside0.mk hr0_1
 have HC0_1 := Aside0.mk hc0_1
 clear hr0_1 hc0_1
 have HB := Aside0.mk (Below.refl w.heap.size w)
 have H : (penduleref05_States.l0 k a1 a2 ([] : List ByteArray) 0 l0_0 l0_1) = some r := h
 clear h
 have H' := Aside0.mk H
 clear H
 go_enter Tryz.func81, Tryz.ntmps81
 go_wp2_with (first | ((with_reducible refine gate_dst (N := 3) rfl ?_); (try (refine gate_guard (by rfl) ?_; dsimp only)); refine box_event ?hg (N := 3) ?hd (cs := #[.slice A0_0 l0_0.length c0_0, .slice A0_1 l0_1.length c0_1]) (t := 25) ?hr ?_; (case hd => rfl); (case hg => rfl); (case hr => first | (go_simp; done) | (go_simp; rfl)); intro gb260 hg w4 hbox hb; have n0_ := Aside0.mk (below_step (by repeat (first | (with_reducible first | exact HB.out | apply below_alloc | apply pw_below_drewN | apply below_drew1) | exact HB.out)) hb); have n1_ := Aside0.mk (hbox); have n2_ := Aside0.mk ((by rw [hg]; exact (below_size (by repeat (first | (with_reducible first | exact HB.out | apply below_alloc | apply pw_below_drewN | apply below_drew1) | exact HB.out))) : w.heap.size ≤ gb260)); have n3_ := Aside0.mk ((by rw [hg]; exact (below_size (by repeat (first | (with_reducible first | exact HB.out | apply below_alloc | apply pw_below_drewN | apply below_drew1) | exact HB.out))) : w.heap.size ≤ gb260)); clear HB; have HB := n0_; have BK260 := n1_; have GW260 := n2_; have GE260 := n3_; clear n0_ n1_ n2_ n3_; clear hb hbox hg))
 go_loopg [7, 8] k (fun kq v7 v8 w' => ∃ (x7_1 : List ByteArray) (x8_1 : Int), v8 = .int .i64 x8_1 ∧ Aside0 (penduleref05_States.l0 kq a1 a2 x7_1 x8_1 l0_0 l0_1 = some r) ∧ Aside0 (kq ≤ k) ∧ Aside0 (Kd.R Kd.string 9 w' w.heap.size (fun _ => True) v7 x7_1) ∧ Aside0 (w'.heap[gb260]? = some (.cells #[(.slice A0_0 l0_0.length c0_0), (.slice A0_1 l0_1.length c0_1)] 25 (0, 0))) ∧ Aside0 (Below w.heap.size w w'))
 case atStart => exact ⟨(([] : List ByteArray)), (0), (by first | rfl | (simp; done) | (simp [*]; done)), H', ⟨Nat.le_refl _⟩, ⟨by first | exact Kd.R_nil _ _ _ _ _ | exact Kd.N_nil _ _ _ _ _ | exact Kd.V_nil _ _ _ _ _ | exact Kd.Q_nil _ _ _ _ _ | exact Kd.S_nil _ _ _ _ _⟩, ⟨by (with_reducible repeat (first | refine blk_drewN ?_ _ | refine blk_drew ?_ | refine blk_alloc ?_ _)); exact BK260.out⟩, ⟨by repeat (first | (with_reducible first | exact HB.out | apply below_alloc | apply pw_below_drewN | apply below_drew1 | refine below_set ?_ GE260.out) | exact HB.out)⟩⟩
 case round =>
   clear H'
   try clear p2
   obtain ⟨x7_1, x8_1, rfl, HA, HK1, HO_7, BK260, HB⟩ := hrel
   cases gk with
   | zero => exact absurd HA.out (by simp [penduleref05_States.l0])
   | succ k1 =>
     have H := HA.out
     clear HA
     simp only [penduleref05_States.l0] at H
     have HC5 := Aside0.mk H
     clear H
     go_upto_region 3 with (fail)
     go_cut [21] (fun v21 wc => ∃ (kq : Nat) (x21_4 : Bool), v21 = .bool x21_4 ∧ Aside0 (penduleref05_States.j1 kq a1 a2 x7_1 x8_1 x21_4 l0_0 l0_1 = some r) ∧ Aside0 (kq ≤ k1) ∧ Aside0 (Kd.R Kd.string 9 wc w.heap.size (fun _ => True) u7 x7_1) ∧ Aside0 (wc.heap[gb260]? = some (.cells #[(.slice A0_0 l0_0.length c0_0), (.slice A0_1 l0_1.length c0_1)] 25 (0, 0))) ∧ Aside0 (Below w.heap.size w wc))
     case first =>
       have H := HC5.out
       clear HC5
       by_cases c6 : x8_1 ≤ a1
       · rw [if_pos c6] at H
         have c6b0 : decide (x8_1 ≤ a1) = true := decide_eq_true c6
         clear c6
         (first | rw [c6b0] | (simp only [i64_w, i32_w]; rw [c6b0]) | skip)
         have H' := Aside0.mk H
         clear H
         have hcz7_0 : wr.cell? ⟨gb260, 0, none⟩ = some (.slice A0_0 l0_0.length c0_0) := (blk_cell BK260.out 0).trans rfl
         have hcz7_1 : wr.cell? ⟨gb260, 1, none⟩ = some (.slice A0_1 l0_1.length c0_1) := (blk_cell BK260.out 1).trans rfl
         have hfz7_0 := blk_frozen BK260.out 0
         have hfz7_1 := blk_frozen BK260.out 1
         go_wp2
         go_meet
         case rel => exact ⟨_, (decide (x8_1 < (l0_1.length : Int))), (by first | rfl | (simp; done) | (simp [*]; done)), H', ⟨by have := HK1.out; first | omega | exact Nat.le_refl _⟩, ⟨by (with_reducible repeat (first | apply Kd.R_alloc | apply Kd.R_drewN | apply Kd.R_drew)); exact HO_7.out⟩, ⟨by (with_reducible repeat (first | refine blk_drewN ?_ _ | refine blk_drew ?_ | refine blk_alloc ?_ _)); exact BK260.out⟩, ⟨by repeat (first | (with_reducible first | exact HB.out | apply below_alloc | apply pw_below_drewN | apply below_drew1 | refine below_set ?_ GE260.out) | exact HB.out)⟩⟩
       · rw [if_neg c6] at H
         have c6b0 : decide (x8_1 ≤ a1) = false := decide_eq_false c6
         clear c6
         (first | rw [c6b0] | (simp only [i64_w, i32_w]; rw [c6b0]) | skip)
         have H' := Aside0.mk H
         clear H
         go_wp2
         go_meet
         case rel => exact ⟨_, (false), (by first | rfl | (simp; done) | (simp [*]; done)), H', ⟨by have := HK1.out; first | omega | exact Nat.le_refl _⟩, ⟨by (with_reducible repeat (first | apply Kd.R_alloc | apply Kd.R_drewN | apply Kd.R_drew)); exact HO_7.out⟩, ⟨by (with_reducible repeat (first | refine blk_drewN ?_ _ | refine blk_drew ?_ | refine blk_alloc ?_ _)); exact BK260.out⟩, ⟨by repeat (first | (with_reducible first | exact HB.out | apply below_alloc | apply pw_below_drewN | apply below_drew1 | refine below_set ?_ GE260.out) | exact HB.out)⟩⟩
     case rest =>
       clear HC5
       try clear p2
       try clear c6
       try clear c6b0
       try clear hcz7_0
       try clear hcz7_1
       try clear hfz7_0
       try clear hfz7_1
       try clear p2
       obtain ⟨kq, x21_4, rfl, HA, HJ4, HO_7, BK260, HB⟩ := hcut
       cases kq with
       | zero => exact absurd HA.out (by simp [penduleref05_States.j1])
       | succ kj4 =>
         have H := HA.out
         clear HA
         simp only [penduleref05_States.j1] at H
         by_cases c8 : x21_4 = true
         · subst c8
           have H1 : (penduleref05_States.l1 kj4 a1 a2 x7_1 x8_1 0 l0_0 l0_1) = some r := by rw [if_pos rfl] at H; exact H
           clear H
           have H := H1
           clear H1
           have H' := Aside0.mk H
           clear H
           go_wp2
           go_loopg [7, 9] kj4 (fun kq v7 v9 w' => ∃ (x7_3 : List ByteArray) (x9_3 : Int), v9 = .int .i64 x9_3 ∧ Aside0 (penduleref05_States.l1 kq a1 a2 x7_3 x8_1 x9_3 l0_0 l0_1 = some r) ∧ Aside0 (kq ≤ kj4) ∧ Aside0 (Kd.R Kd.string 9 w' w.heap.size (fun _ => True) v7 x7_3) ∧ Aside0 (w'.heap[gb260]? = some (.cells #[(.slice A0_0 l0_0.length c0_0), (.slice A0_1 l0_1.length c0_1)] 25 (0, 0))) ∧ Aside0 (Below w.heap.size w w'))
           case atStart => exact ⟨(x7_1), (0), (by first | rfl | (simp; done) | (simp [*]; done)), H', ⟨Nat.le_refl _⟩, ⟨by (with_reducible repeat (first | apply Kd.R_alloc | apply Kd.R_drewN | apply Kd.R_drew)); exact HO_7.out⟩, ⟨by (with_reducible repeat (first | refine blk_drewN ?_ _ | refine blk_drew ?_ | refine blk_alloc ?_ _)); exact BK260.out⟩, ⟨by repeat (first | (with_reducible first | exact HB.out | apply below_alloc | apply pw_below_drewN | apply below_drew1 | refine below_set ?_ GE260.out) | exact HB.out)⟩⟩
           case round =>
             clear H'
             try clear p2
             try clear c6
             try clear c6b0
             try clear c8
             try clear hcz7_0
             try clear hcz7_1
             try clear hfz7_0
             try clear hfz7_1
             try clear p2
             obtain ⟨x7_3, x9_3, rfl, HA, HK3, HO_7, BK260, HB⟩ := hrel
             cases gk with
             | zero => exact absurd HA.out (by simp [penduleref05_States.l1])
             | succ k3 =>
               have H := HA.out
               clear HA
               simp only [penduleref05_States.l1] at H
               by_cases c9 : 0 ≤ x8_1
               · rw [if_pos c9] at H
                 have c9b0 : decide (0 ≤ x8_1) = true := decide_eq_true c9
                 clear c9
                 by_cases c10 : x8_1 < (l0_1.length : Int)
                 · rw [if_pos c10] at H
                   have c10b0 : decide (x8_1 < (l0_1.length : Int)) = true := decide_eq_true c10
                   clear c10
                   by_cases c11 : x9_3 < (((rd_T35 l0_1 x8_1).f4).length : Int)
                   · rw [if_pos c11] at H
                     have c11b0 : decide (x9_3 < (((rd_T35 l0_1 x8_1).f4).length : Int)) = true := decide_eq_true c11
                     clear c11
                     have HC12 := Aside0.mk H
                     clear H
                     have hcz13_0 : wr.cell? ⟨gb260, 0, none⟩ = some (.slice A0_0 l0_0.length c0_0) := (blk_cell BK260.out 0).trans rfl
                     have hcz13_1 : wr.cell? ⟨gb260, 1, none⟩ = some (.slice A0_1 l0_1.length c0_1) := (blk_cell BK260.out 1).trans rfl
                     have hfz13_0 := blk_frozen BK260.out 0
                     have hfz13_1 := blk_frozen BK260.out 1
                     have p261 : 0 ≤ (x8_1 : Int) := of_decide_eq_true (by first | (with_reducible assumption) | assumption)
                     have q261 : x8_1 < (l0_1.length : Int) := of_decide_eq_true (by first | (with_reducible assumption) | assumption)
                     obtain ⟨ad261, A261_1, c261_1, A261_2, c261_2, A261_3, c261_3, A261_4, c261_4, e261, hx261_0, hx261_1, hx261_2, hx261_3, hx261_4, hl261_1, hi261_1, hl261_2, hi261_2, hl261_3, hi261_3, hl261_4, hi261_4⟩ := at_T35 HR0_1.out x8_1 p261 q261
                     cases e261
                     replace hx261_0 := (HB.out.cell (World.block_lt_of_cell? w _ hx261_0)).trans hx261_0
                     replace hx261_1 := (HB.out.cell (World.block_lt_of_cell? w _ hx261_1)).trans hx261_1
                     replace hx261_2 := (HB.out.cell (World.block_lt_of_cell? w _ hx261_2)).trans hx261_2
                     replace hx261_3 := (HB.out.cell (World.block_lt_of_cell? w _ hx261_3)).trans hx261_3
                     replace hx261_4 := (HB.out.cell (World.block_lt_of_cell? w _ hx261_4)).trans hx261_4
                     have HR261_1 := Aside0.mk hi261_1
                     have HC261_1 := Aside0.mk hl261_1
                     clear hi261_1 hl261_1
                     have HR261_2 := Aside0.mk hi261_2
                     have HC261_2 := Aside0.mk hl261_2
                     clear hi261_2 hl261_2
                     have HR261_3 := Aside0.mk hi261_3
                     have HC261_3 := Aside0.mk hl261_3
                     clear hi261_3 hl261_3
                     have HR261_4 := Aside0.mk hi261_4
                     have HC261_4 := Aside0.mk hl261_4
                     clear hi261_4 hl261_4
                     replace p261 := eq_true p261
                     replace q261 := eq_true q261
                     go_upto_region 8 with (fail)
                     go_cut [42] (fun v42 wc => ∃ (kq : Nat) (x42_11 : Bool), v42 = .bool x42_11 ∧ Aside0 (penduleref05_States.j3 kq a1 a2 x7_3 x8_1 x9_3 x42_11 l0_0 l0_1 = some r) ∧ Aside0 (kq ≤ k3) ∧ Aside0 (Kd.R Kd.string 9 wc w.heap.size (fun _ => True) u7 x7_3) ∧ Aside0 (wc.heap[gb260]? = some (.cells #[(.slice A0_0 l0_0.length c0_0), (.slice (some ad261) l0_1.length c0_1)] 25 (0, 0))) ∧ Aside0 (Below w.heap.size w wc))
                     case first =>
                       have H := HC12.out
                       clear HC12
                       by_cases c14 : x8_1 = a1
                       · rw [if_pos c14] at H
                         have c14b0 : (x8_1 == a1) = true := beq_iff_eq.mpr c14
                         have c14b1 : (x8_1 != a1) = false := bne_eq_false_iff_eq.mpr c14
                         clear c14
                         (first | rw [c14b0] | (simp only [i64_w, i32_w]; rw [c14b0]) | skip)
                         have H' := Aside0.mk H
                         clear H
                         go_wp2
                         go_meet
                         case rel => exact ⟨_, (decide (x9_3 ≥ a2)), (by first | rfl | (simp; done) | (simp [*]; done)), H', ⟨by have := HK1.out; have := HJ4.out; have := HK3.out; first | omega | exact Nat.le_refl _⟩, ⟨by (with_reducible repeat (first | apply Kd.R_alloc | apply Kd.R_drewN | apply Kd.R_drew)); exact HO_7.out⟩, ⟨by (with_reducible repeat (first | refine blk_drewN ?_ _ | refine blk_drew ?_ | refine blk_alloc ?_ _)); exact BK260.out⟩, ⟨by repeat (first | (with_reducible first | exact HB.out | apply below_alloc | apply pw_below_drewN | apply below_drew1 | refine below_set ?_ GE260.out) | exact HB.out)⟩⟩
                       · rw [if_neg c14] at H
                         have c14b0 : (x8_1 == a1) = false := beq_eq_false_iff_ne.mpr c14
                         have c14b1 : (x8_1 != a1) = true := bne_iff_ne.mpr c14
                         (first | rw [c14b0] | (simp only [i64_w, i32_w]; rw [c14b0]) | skip)
                         have H' := Aside0.mk H
                         clear H
                         go_wp2
                         go_meet
                         case rel => exact ⟨_, (false), (by first | rfl | (simp; done) | (simp [*]; done)), H', ⟨by have := HK1.out; have := HJ4.out; have := HK3.out; first | omega | exact Nat.le_refl _⟩, ⟨by (with_reducible repeat (first | apply Kd.R_alloc | apply Kd.R_drewN | apply Kd.R_drew)); exact HO_7.out⟩, ⟨by (with_reducible repeat (first | refine blk_drewN ?_ _ | refine blk_drew ?_ | refine blk_alloc ?_ _)); exact BK260.out⟩, ⟨by repeat (first | (with_reducible first | exact HB.out | apply below_alloc | apply pw_below_drewN | apply below_drew1 | refine below_set ?_ GE260.out) | exact HB.out)⟩⟩
                     case rest =>
                       clear HC12
                       try clear c1
                       try clear c2
                       try clear p2
                       try clear q2
                       try clear hx2
                       try clear c6
                       try clear c6b0
                       try clear c8
                       try clear c9
                       try clear c9b0
                       try clear c10
                       try clear c10b0
                       try clear c11
                       try clear c11b0
                       try clear c14
                       try clear c14b0
                       try clear c14b1
                       try clear hcz13_0
                       try clear hcz13_1
                       try clear hcz7_0
                       try clear hcz7_1
                       try clear hfz13_0
                       try clear hfz13_1
                       try clear hfz7_0
                       try clear hfz7_1
                       try clear hx261_0
                       try clear hx261_1
                       try clear hx261_2
                       try clear hx261_3
                       try clear hx261_4
                       try clear p2
                       try clear p261
                       try clear q261
                       obtain ⟨kq, x42_11, rfl, HA, HJ11, HO_7, BK260, HB⟩ := hcut
                       cases kq with
                       | zero => exact absurd HA.out (by simp [penduleref05_States.j3])
                       | succ kj11 =>
                         have H := HA.out
                         clear HA
                         simp only [penduleref05_States.j3] at H
                         by_cases c15 : x42_11 = true
                         · subst c15
                           have H1 : (penduleref05_States.l0 kj11 a1 a2 x7_3 (wrap64 (x8_1 + 1)) l0_0 l0_1) = some r := by rw [if_pos rfl] at H; exact H
                           clear H
                           have H := H1
                           clear H1
                           have H' := Aside0.mk H
                           clear H
                           go_wp2
                           go_roundg kj11
                           case measure => have := HK1.out; have := HJ4.out; have := HK3.out; have := HJ11.out; omega
                           case rel => exact ⟨(x7_3), (wrap64 (x8_1 + 1)), (by first | rfl | (simp; done) | (simp [*]; done)), H', ⟨by have := HK1.out; have := HJ4.out; have := HK3.out; have := HJ11.out; omega⟩, ⟨by (with_reducible repeat (first | apply Kd.R_alloc | apply Kd.R_drewN | apply Kd.R_drew)); exact HO_7.out⟩, ⟨by (with_reducible repeat (first | refine blk_drewN ?_ _ | refine blk_drew ?_ | refine blk_alloc ?_ _)); exact BK260.out⟩, ⟨by repeat (first | (with_reducible first | exact HB.out | apply below_alloc | apply pw_below_drewN | apply below_drew1 | refine below_set ?_ GE260.out) | exact HB.out)⟩⟩
                         · replace c15 := Bool.eq_false_iff.mpr c15
                           subst c15
                           have H1 : (if 0 ≤ x8_1 then (if x8_1 < (l0_1.length : Int) then (if 0 ≤ x9_3 then (if x9_3 < (((rd_T35 l0_1 x8_1).f4).length : Int) then (penduleref05_States.l2 kj11 a1 a2 x7_3 x8_1 x9_3 ((rd_T47 ((rd_T35 l0_1 x8_1).f4) x9_3).f1) 0 l0_0 l0_1) else (none)) else (none)) else (none)) else (none)) = some r := by rw [if_neg (show ¬ (false = true) by decide)] at H; exact H
                           clear H
                           have H := H1
                           clear H1
                           by_cases c16 : 0 ≤ x8_1
                           · rw [if_pos c16] at H
                             have c16b0 : decide (0 ≤ x8_1) = true := decide_eq_true c16
                             clear c16
                             by_cases c17 : x8_1 < (l0_1.length : Int)
                             · rw [if_pos c17] at H
                               have c17b0 : decide (x8_1 < (l0_1.length : Int)) = true := decide_eq_true c17
                               clear c17
                               by_cases c18 : 0 ≤ x9_3
                               · rw [if_pos c18] at H
                                 have c18b0 : decide (0 ≤ x9_3) = true := decide_eq_true c18
                                 clear c18
                                 by_cases c19 : x9_3 < (((rd_T35 l0_1 x8_1).f4).length : Int)
                                 · rw [if_pos c19] at H
                                   have c19b0 : decide (x9_3 < (((rd_T35 l0_1 x8_1).f4).length : Int)) = true := decide_eq_true c19
                                   clear c19
                                   have H' := Aside0.mk H
                                   clear H
                                   have hcz20_0 : wc.cell? ⟨gb260, 0, none⟩ = some (.slice A0_0 l0_0.length c0_0) := (blk_cell BK260.out 0).trans rfl
                                   have hcz20_1 : wc.cell? ⟨gb260, 1, none⟩ = some (.slice (some ad261) l0_1.length c0_1) := (blk_cell BK260.out 1).trans rfl
                                   have hfz20_0 := blk_frozen BK260.out 0
                                   have hfz20_1 := blk_frozen BK260.out 1
                                   have p262 : 0 ≤ (x8_1 : Int) := of_decide_eq_true (by first | (with_reducible assumption) | assumption)
                                   have q262 : x8_1 < (l0_1.length : Int) := of_decide_eq_true (by first | (with_reducible assumption) | assumption)
                                   obtain ⟨ad262, A262_1, c262_1, A262_2, c262_2, A262_3, c262_3, A262_4, c262_4, e262, hx262_0, hx262_1, hx262_2, hx262_3, hx262_4, hl262_1, hi262_1, hl262_2, hi262_2, hl262_3, hi262_3, hl262_4, hi262_4⟩ := at_T35 HR0_1.out x8_1 p262 q262
                                   obtain rfl : ad261 = ad262 := (by injection e262)
                                   replace hx262_0 := (HB.out.cell (World.block_lt_of_cell? w _ hx262_0)).trans hx262_0
                                   replace hx262_1 := (HB.out.cell (World.block_lt_of_cell? w _ hx262_1)).trans hx262_1
                                   replace hx262_2 := (HB.out.cell (World.block_lt_of_cell? w _ hx262_2)).trans hx262_2
                                   replace hx262_3 := (HB.out.cell (World.block_lt_of_cell? w _ hx262_3)).trans hx262_3
                                   replace hx262_4 := (HB.out.cell (World.block_lt_of_cell? w _ hx262_4)).trans hx262_4
                                   have HR262_1 := Aside0.mk hi262_1
                                   have HC262_1 := Aside0.mk hl262_1
                                   clear hi262_1 hl262_1
                                   have HR262_2 := Aside0.mk hi262_2
                                   have HC262_2 := Aside0.mk hl262_2
                                   clear hi262_2 hl262_2
                                   have HR262_3 := Aside0.mk hi262_3
                                   have HC262_3 := Aside0.mk hl262_3
                                   clear hi262_3 hl262_3
                                   have HR262_4 := Aside0.mk hi262_4
                                   have HC262_4 := Aside0.mk hl262_4
                                   clear hi262_4 hl262_4
                                   replace p262 := eq_true p262
                                   replace q262 := eq_true q262
                                   have p263 : 0 ≤ (x9_3 : Int) := of_decide_eq_true (by first | (with_reducible assumption) | assumption)
                                   have q263 : x9_3 < (((rd_T35 l0_1 x8_1).f4).length : Int) := of_decide_eq_true (by first | (with_reducible assumption) | assumption)
                                   obtain ⟨ad263, A263_0, c263_0, A263_4, c263_4, A263_5, c263_5, A263_6, c263_6, e263, hx263_0, hx263_1, hx263_2, hx263_3, hx263_4, hx263_5, hx263_6, hl263_0, hi263_0, hl263_4, hi263_4, hl263_5, hi263_5, hl263_6, hi263_6⟩ := at_T47 HR262_4.out x9_3 p263 q263
                                   cases e263
                                   replace hx263_0 := (HB.out.cell (World.block_lt_of_cell? w _ hx263_0)).trans hx263_0
                                   replace hx263_1 := (HB.out.cell (World.block_lt_of_cell? w _ hx263_1)).trans hx263_1
                                   replace hx263_2 := (HB.out.cell (World.block_lt_of_cell? w _ hx263_2)).trans hx263_2
                                   replace hx263_3 := (HB.out.cell (World.block_lt_of_cell? w _ hx263_3)).trans hx263_3
                                   replace hx263_4 := (HB.out.cell (World.block_lt_of_cell? w _ hx263_4)).trans hx263_4
                                   replace hx263_5 := (HB.out.cell (World.block_lt_of_cell? w _ hx263_5)).trans hx263_5
                                   replace hx263_6 := (HB.out.cell (World.block_lt_of_cell? w _ hx263_6)).trans hx263_6
                                   have HR263_0 := Aside0.mk hi263_0
                                   have HC263_0 := Aside0.mk hl263_0
                                   clear hi263_0 hl263_0
                                   have HR263_4 := Aside0.mk hi263_4
                                   have HC263_4 := Aside0.mk hl263_4
                                   clear hi263_4 hl263_4
                                   have HR263_5 := Aside0.mk hi263_5
                                   have HC263_5 := Aside0.mk hl263_5
                                   clear hi263_5 hl263_5
                                   have HR263_6 := Aside0.mk hi263_6
                                   have HC263_6 := Aside0.mk hl263_6
                                   clear hi263_6 hl263_6
                                   replace p263 := eq_true p263
                                   replace q263 := eq_true q263
                                   go_wp2
                                   go_loopg [7, 11] kj11 (fun kq v7 v11 w' => ∃ (x7_5 : List ByteArray) (x11_5 : Int), v11 = .int .i64 x11_5 ∧ Aside0 (penduleref05_States.l2 kq a1 a2 x7_5 x8_1 x9_3 ((rd_T47 ((rd_T35 l0_1 x8_1).f4) x9_3).f1) x11_5 l0_0 l0_1 = some r) ∧ Aside0 (kq ≤ kj11) ∧ Aside0 (Kd.R Kd.string 9 w' w.heap.size (fun _ => True) v7 x7_5) ∧ Aside0 (w'.heap[gb260]? = some (.cells #[(.slice A0_0 l0_0.length c0_0), (.slice (some ad261) l0_1.length c0_1)] 25 (0, 0))) ∧ Aside0 (Below w.heap.size w w'))
                                   case atStart => exact ⟨(x7_3), (0), (by first | rfl | (simp; done) | (simp [*]; done)), H', ⟨Nat.le_refl _⟩, ⟨by (with_reducible repeat (first | apply Kd.R_alloc | apply Kd.R_drewN | apply Kd.R_drew)); exact HO_7.out⟩, ⟨by (with_reducible repeat (first | refine blk_drewN ?_ _ | refine blk_drew ?_ | refine blk_alloc ?_ _)); exact BK260.out⟩, ⟨by repeat (first | (with_reducible first | exact HB.out | apply below_alloc | apply pw_below_drewN | apply below_drew1 | refine below_set ?_ GE260.out) | exact HB.out)⟩⟩
                                   case round =>
                                     clear H'
                                     try clear c1
                                     try clear c2
                                     try clear p2
                                     try clear q2
                                     try clear hx2
                                     try clear c6
                                     try clear c6b0
                                     try clear p6
                                     try clear c8
                                     try clear c9
                                     try clear c9b0
                                     try clear c10
                                     try clear c10b0
                                     try clear c11
                                     try clear c11b0
                                     try clear c14
                                     try clear c14b0
                                     try clear c14b1
                                     try clear c15
                                     try clear c16
                                     try clear c16b0
                                     try clear c17
                                     try clear c17b0
                                     try clear c18
                                     try clear c18b0
                                     try clear c19
                                     try clear c19b0
                                     try clear hcz13_0
                                     try clear hcz13_1
                                     try clear hcz20_0
                                     try clear hcz20_1
                                     try clear hcz7_0
                                     try clear hcz7_1
                                     try clear hfz13_0
                                     try clear hfz13_1
                                     try clear hfz20_0
                                     try clear hfz20_1
                                     try clear hfz7_0
                                     try clear hfz7_1
                                     try clear hx261_0
                                     try clear hx261_1
                                     try clear hx261_2
                                     try clear hx261_3
                                     try clear hx261_4
                                     try clear hx262_0
                                     try clear hx262_1
                                     try clear hx262_2
                                     try clear hx262_3
                                     try clear hx262_4
                                     try clear hx263_0
                                     try clear hx263_1
                                     try clear hx263_2
                                     try clear hx263_3
                                     try clear hx263_4
                                     try clear hx263_5
                                     try clear hx263_6
                                     try clear p2
                                     try clear p261
                                     try clear p262
                                     try clear p263
                                     try clear q2
                                     try clear q261
                                     try clear q262
                                     try clear q263
                                     obtain ⟨x7_5, x11_5, rfl, HA, HK5, HO_7, BK260, HB⟩ := hrel
                                     cases gk with
                                     | zero => exact absurd HA.out (by simp [penduleref05_States.l2])
                                     | succ k5 =>
                                       have H := HA.out
                                       clear HA
                                       simp only [penduleref05_States.l2] at H
                                       by_cases c21 : x11_5 < (((rd_T47 ((rd_T35 l0_1 x8_1).f4) x9_3).f1).length : Int)
                                       · rw [if_pos c21] at H
                                         have c21b0 : decide (x11_5 < (((rd_T47 ((rd_T35 l0_1 x8_1).f4) x9_3).f1).length : Int)) = true := decide_eq_true c21
                                         clear c21
                                         by_cases c22 : 0 ≤ x11_5
                                         · rw [if_pos c22] at H
                                           have c22b0 : decide (0 ≤ x11_5) = true := decide_eq_true c22
                                           clear c22
                                           by_cases c23 : x7_5.length < 8796093022208
                                           · rw [if_pos c23] at H
                                             have LMc23 := Aside0.mk c23
                                             clear c23
                                             obtain ⟨y265, hy265⟩ : ∃ y_ : List ByteArray, y_ = (x7_5 ++ [(rd_T65 ((rd_T47 ((rd_T35 l0_1 x8_1).f4) x9_3).f1) x11_5).f0]) := ⟨_, rfl⟩
                                             replace H : (penduleref05_States.l2 k5 a1 a2 y265 x8_1 x9_3 ((rd_T47 ((rd_T35 l0_1 x8_1).f4) x9_3).f1) (wrap64 (x11_5 + 1)) l0_0 l0_1) = some r := by first | (rw [hy265]; with_reducible exact H) | (have H2_ := (Option.bind_some _ _).symm.trans H; rw [hy265]; with_reducible exact H2_) | (have H2_ := (Option.bind_some _ _).symm.trans H; with_reducible exact H2_) | with_reducible exact H | (rw [hy265]; exact H) | exact H
                                             have Ny265 := Aside0.mk hy265
                                             clear hy265
                                             have H' := Aside0.mk H
                                             clear H
                                             have p264 : 0 ≤ (x11_5 : Int) := of_decide_eq_true (by first | (with_reducible assumption) | assumption)
                                             have q264 : x11_5 < (((rd_T47 ((rd_T35 l0_1 x8_1).f4) x9_3).f1).length : Int) := of_decide_eq_true (by first | (with_reducible assumption) | assumption)
                                             obtain ⟨ad264, A264_1, c264_1, A264_2, c264_2, e264, hx264_0, hx264_1, hx264_2, hl264_1, hi264_1, hl264_2, hi264_2⟩ := at_T65 HR263_6.out x11_5 p264 q264
                                             cases e264
                                             replace hx264_0 := (HB.out.cell (World.block_lt_of_cell? w _ hx264_0)).trans hx264_0
                                             replace hx264_1 := (HB.out.cell (World.block_lt_of_cell? w _ hx264_1)).trans hx264_1
                                             replace hx264_2 := (HB.out.cell (World.block_lt_of_cell? w _ hx264_2)).trans hx264_2
                                             have HR264_1 := Aside0.mk hi264_1
                                             have HC264_1 := Aside0.mk hl264_1
                                             clear hi264_1 hl264_1
                                             have HR264_2 := Aside0.mk hi264_2
                                             have HC264_2 := Aside0.mk hl264_2
                                             clear hi264_2 hl264_2
                                             replace p264 := eq_true p264
                                             replace q264 := eq_true q264
                                             go_wp2_with (first | ((with_reducible refine gate_builtin (b := .append) (xs := #[.tmp 59, .tmp 65]) rfl ?_); (try (refine gate_guard (by rfl) ?_; dsimp only)); at_builtin; refine Kd.R_append Kd.string (w0 := w) w.heap.size rfl (.tmp 59) (.tmp 65) 32 9 (.string ⟨#[]⟩) 16 rfl Tryz.underlying32 info9 rfl (by decide) (by omega) u7 x7_5 ((rd_T65 ((rd_T47 ((rd_T35 l0_1 x8_1).f4) x9_3).f1) x11_5).f0) [.string ((rd_T65 ((rd_T47 ((rd_T35 l0_1 x8_1).f4) x9_3).f1) x11_5).f0)] (fun _ => True) (fun _ => False) rfl rfl ?aP (fun _ hk => hk.elim) ?aF ?aO ?aB ?aS ?aL ?_; (case aP => exact rfl); (case aB => exact (by repeat (first | (with_reducible first | exact HB.out | apply below_alloc | apply pw_below_drewN | apply below_drew1 | refine below_set ?_ GE260.out) | exact HB.out))); (case aF => exact (fun _ _ => trivial)); (case aO => exact (by (with_reducible repeat (first | apply Kd.R_alloc | apply Kd.R_drewN | apply Kd.R_drew)); exact HO_7.out)); (case aS => exact (below_size (by repeat (first | (with_reducible first | exact HB.out | apply below_alloc | apply pw_below_drewN | apply below_drew1 | refine below_set ?_ GE260.out) | exact HB.out)))); (case aL => have := LMc23.out; omega); intro v266 w24 ho hb hg hat; rw [← Ny265.out] at ho; have n0_ := Aside0.mk (blk_grown (g := gb260) (o := .cells #[.slice A0_0 l0_0.length c0_0, .slice (some ad261) l0_1.length c0_1] 25 (0, 0)) (by (with_reducible repeat (first | refine blk_drewN ?_ _ | refine blk_drew ?_ | refine blk_alloc ?_ _)); exact BK260.out) hg (Kd.R_ne HO_7.out BK260.out (by decide))); have n1_ := Aside0.mk (hb); have n2_ := Aside0.mk (ho); clear BK260; clear HB; clear HO_7; have BK260 := n0_; have HB := n1_; have HO267 := n2_; clear n0_ n1_ n2_; clear ho hb hg hat))
                                             go_roundg k5
                                             case measure => have := HK1.out; have := HJ4.out; have := HK3.out; have := HJ11.out; have := HK5.out; omega
                                             case rel => exact ⟨(y265), (wrap64 (x11_5 + 1)), (by first | rfl | (simp; done) | (simp [*]; done)), H', ⟨by have := HK1.out; have := HJ4.out; have := HK3.out; have := HJ11.out; have := HK5.out; omega⟩, ⟨by (with_reducible repeat (first | apply Kd.R_alloc | apply Kd.R_drewN | apply Kd.R_drew)); exact HO267.out⟩, ⟨by (with_reducible repeat (first | refine blk_drewN ?_ _ | refine blk_drew ?_ | refine blk_alloc ?_ _)); exact BK260.out⟩, ⟨by repeat (first | (with_reducible first | exact HB.out | apply below_alloc | apply pw_below_drewN | apply below_drew1 | refine below_set ?_ GE260.out) | exact HB.out)⟩⟩
                                           · rw [if_neg c23] at H
                                             exact absurd H (by simp)
                                         · rw [if_neg c22] at H
                                           exact absurd H (by simp)
                                       · rw [if_neg c21] at H
                                         have c21b0 : decide (x11_5 < (((rd_T47 ((rd_T35 l0_1 x8_1).f4) x9_3).f1).length : Int)) = false := decide_eq_false c21
                                         clear c21
                                         have H' := Aside0.mk H
                                         clear H
                                         go_wp2
                                         go_roundg k5
                                         case measure => have := HK1.out; have := HJ4.out; have := HK3.out; have := HJ11.out; have := HK5.out; omega
                                         case rel => exact ⟨(x7_5), (wrap64 (x9_3 + 1)), (by first | rfl | (simp; done) | (simp [*]; done)), H', ⟨by have := HK1.out; have := HJ4.out; have := HK3.out; have := HJ11.out; have := HK5.out; omega⟩, ⟨by (with_reducible repeat (first | apply Kd.R_alloc | apply Kd.R_drewN | apply Kd.R_drew)); exact HO_7.out⟩, ⟨by (with_reducible repeat (first | refine blk_drewN ?_ _ | refine blk_drew ?_ | refine blk_alloc ?_ _)); exact BK260.out⟩, ⟨by repeat (first | (with_reducible first | exact HB.out | apply below_alloc | apply pw_below_drewN | apply below_drew1 | refine below_set ?_ GE260.out) | exact HB.out)⟩⟩
                                 · rw [if_neg c19] at H
                                   exact absurd H (by simp)
                               · rw [if_neg c18] at H
                                 exact absurd H (by simp)
                             · rw [if_neg c17] at H
                               exact absurd H (by simp)
                           · rw [if_neg c16] at H
                             exact absurd H (by simp)
                   · rw [if_neg c11] at H
                     have c11b0 : decide (x9_3 < (((rd_T35 l0_1 x8_1).f4).length : Int)) = false := decide_eq_false c11
                     clear c11
                     have H' := Aside0.mk H
                     clear H
                     have hcz25_0 : wr.cell? ⟨gb260, 0, none⟩ = some (.slice A0_0 l0_0.length c0_0) := (blk_cell BK260.out 0).trans rfl
                     have hcz25_1 : wr.cell? ⟨gb260, 1, none⟩ = some (.slice A0_1 l0_1.length c0_1) := (blk_cell BK260.out 1).trans rfl
                     have hfz25_0 := blk_frozen BK260.out 0
                     have hfz25_1 := blk_frozen BK260.out 1
                     have p261 : 0 ≤ (x8_1 : Int) := of_decide_eq_true (by first | (with_reducible assumption) | assumption)
                     have q261 : x8_1 < (l0_1.length : Int) := of_decide_eq_true (by first | (with_reducible assumption) | assumption)
                     obtain ⟨ad261, A261_1, c261_1, A261_2, c261_2, A261_3, c261_3, A261_4, c261_4, e261, hx261_0, hx261_1, hx261_2, hx261_3, hx261_4, hl261_1, hi261_1, hl261_2, hi261_2, hl261_3, hi261_3, hl261_4, hi261_4⟩ := at_T35 HR0_1.out x8_1 p261 q261
                     cases e261
                     replace hx261_0 := (HB.out.cell (World.block_lt_of_cell? w _ hx261_0)).trans hx261_0
                     replace hx261_1 := (HB.out.cell (World.block_lt_of_cell? w _ hx261_1)).trans hx261_1
                     replace hx261_2 := (HB.out.cell (World.block_lt_of_cell? w _ hx261_2)).trans hx261_2
                     replace hx261_3 := (HB.out.cell (World.block_lt_of_cell? w _ hx261_3)).trans hx261_3
                     replace hx261_4 := (HB.out.cell (World.block_lt_of_cell? w _ hx261_4)).trans hx261_4
                     have HR261_1 := Aside0.mk hi261_1
                     have HC261_1 := Aside0.mk hl261_1
                     clear hi261_1 hl261_1
                     have HR261_2 := Aside0.mk hi261_2
                     have HC261_2 := Aside0.mk hl261_2
                     clear hi261_2 hl261_2
                     have HR261_3 := Aside0.mk hi261_3
                     have HC261_3 := Aside0.mk hl261_3
                     clear hi261_3 hl261_3
                     have HR261_4 := Aside0.mk hi261_4
                     have HC261_4 := Aside0.mk hl261_4
                     clear hi261_4 hl261_4
                     replace p261 := eq_true p261
                     replace q261 := eq_true q261
                     go_wp2
                     go_roundg k3
                     case measure => have := HK1.out; have := HJ4.out; have := HK3.out; omega
                     case rel => exact ⟨(x7_3), (wrap64 (x8_1 + 1)), (by first | rfl | (simp; done) | (simp [*]; done)), H', ⟨by have := HK1.out; have := HJ4.out; have := HK3.out; omega⟩, ⟨by (with_reducible repeat (first | apply Kd.R_alloc | apply Kd.R_drewN | apply Kd.R_drew)); exact HO_7.out⟩, ⟨by (with_reducible repeat (first | refine blk_drewN ?_ _ | refine blk_drew ?_ | refine blk_alloc ?_ _)); exact BK260.out⟩, ⟨by repeat (first | (with_reducible first | exact HB.out | apply below_alloc | apply pw_below_drewN | apply below_drew1 | refine below_set ?_ GE260.out) | exact HB.out)⟩⟩
                 · rw [if_neg c10] at H
                   exact absurd H (by simp)
               · rw [if_neg c9] at H
                 exact absurd H (by simp)
         · replace c8 := Bool.eq_false_iff.mpr c8
           subst c8
           have H1 : (some x7_1) = some r := by rw [if_neg (show ¬ (false = true) by decide)] at H; exact H
           clear H
           have H := H1
           clear H1
           obtain rfl := Option.some.inj H
           go_wp2
           go_ret
           exact ⟨_, by first | rfl | (simp [errW_none, errW_some] <;> rfl) | (simp [*, errW_none, errW_some] <;> rfl), by (with_reducible repeat (first | apply Kd.R_alloc | apply Kd.R_drewN | apply Kd.R_drew)); exact HO_7.out, by repeat (first | (with_reducible first | exact HB.out | apply below_alloc | apply pw_below_drewN | apply below_drew1 | refine below_set ?_ GE260.out) | exact HB.out)⟩
end Go.Proofs.YtggfnbnochmkdaaGreat.PScope
