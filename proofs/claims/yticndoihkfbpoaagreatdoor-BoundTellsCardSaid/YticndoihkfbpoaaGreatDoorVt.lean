/- The law BoundTells: its walk. -/
import Derived.Test.YticndoihkfbpoaaGreatDoorVl
import Derived.Test.YticndoihkfbpoaaGreatDoorVr
namespace Go.Proofs.YticndoihkfbpoaaGreatDoor
open Go Go.RowKit Go.Lib Go.Proofs.YticndoihkfbpoaaGreatDoorW.PrintWords Go.Proofs.YticndoihkfbpoaaGreatDoor.PScope
set_option maxRecDepth 100000
set_option linter.unusedSimpArgs false
set_option linter.unusedVariables false

theorem cost_le (l : List FF) : costV false l ≤ costV true l := by
  unfold costV
  split
  · exact lastCost_mono l
  · exact Int.le_refl _
set_option maxHeartbeats 4000000 in
theorem boundTells_calls (l : List FF) (hl : FlatSmall l) (_h2 : ∀ f ∈ l, (f.body.length + 2) * 192 ≤ 140737488355328) (w : World) (A : Option Addr) (c : Nat) (hC : kFF.C w A l.length l) (_hcap : l.length ≤ c) (hL : LaidR w) :
    Calls Tryz.prog 3 #[.agg #[.slice A l.length c]] w fun e w' => e = .returned (.bool true) ∧ Below w.heap.size w w' := by
  clear _h2 _hcap
  have HL := Aside0.mk hL
  have h1 := fun (W : World) (hB : Below w.heap.size w W) => cells_calls l hl W A c (Kd.C_below hC hB)
  have h2 := fun (W : World) (hB : Below w.heap.size w W) => rcells_calls l hl W A c (Kd.C_below hC hB)
  have h3 := fun (W : World) (hB : Below w.heap.size w W) => costF_calls l hl W A c (Kd.C_below hC hB)
  have h4 := fun (W : World) (hB : Below w.heap.size w W) => rcostF_calls l hl W A c (Kd.C_below hC hB)
  have h5 := fun (W : World) (hB : Below w.heap.size w W) => leastF_calls l hl W A c (Kd.C_below hC hB)
  have h6 := fun (W : World) (hB : Below w.heap.size w W) => rleastF_calls l hl W A c (Kd.C_below hC hB)
  unfold OfPost at h3 h5
  have hle : decide (costV false l ≤ costV true l) = true := decide_eq_true (cost_le l)
  generalize costV true l = b at h3 h4 hle
  generalize costV false l = m at h5 h6 hle
  generalize cellsV l = a at h1 h2
  generalize errV l = ev at h1 h2 h3 h4 h5 h6
  clear hl hC hL
  go_enter Tryz.func3, Tryz.ntmps3
  go_wp2_with fail
  refine (lives_calls _ (HL.out.below (below_alloc (Below.refl _ w) _))).mono ?_
  rintro e w1 ⟨rfl, hb⟩
  have BX := Aside0.mk (below_blk (blk_new w (.cells #[.slice A l.length c] 24 (0, 0))) hb)
  have HB := Aside0.mk (below_step (below_alloc (Below.refl _ w) _) hb)
  clear hb
  have x0 := (blk_cell BX.out 0).trans rfl
  go_wp2_with fail
  refine (h1 _ HB.out).mono ?_
  rintro e w2 ⟨rfl, hb⟩
  replace BX := Aside0.mk (below_blk BX.out hb)
  replace HB := Aside0.mk (below_step HB.out hb)
  clear hb x0 h1
  have x0 := (blk_cell BX.out 0).trans rfl
  go_wp2_with fail
  refine (h2 _ HB.out).mono ?_
  rintro e w3 ⟨rfl, hb⟩
  replace BX := Aside0.mk (below_blk BX.out hb)
  replace HB := Aside0.mk (below_step HB.out hb)
  clear hb x0 h2
  have x0 := (blk_cell BX.out 0).trans rfl
  go_wp2_with fail
  refine (h3 _ HB.out).mono ?_
  rintro e w4 ⟨rfl, hb⟩
  replace BX := Aside0.mk (below_blk BX.out hb)
  replace HB := Aside0.mk (below_step HB.out hb)
  clear hb x0 h3
  have x0 := (blk_cell BX.out 0).trans rfl
  go_wp2_with fail
  refine (h4 _ HB.out).mono ?_
  rintro e w5 ⟨rfl, hb⟩
  replace BX := Aside0.mk (below_blk BX.out hb)
  replace HB := Aside0.mk (below_step HB.out hb)
  clear hb x0 h4
  have x0 := (blk_cell BX.out 0).trans rfl
  go_wp2_with fail
  refine (h5 _ HB.out).mono ?_
  rintro e w6 ⟨rfl, hb⟩
  replace BX := Aside0.mk (below_blk BX.out hb)
  replace HB := Aside0.mk (below_step HB.out hb)
  clear hb x0 h5
  have x0 := (blk_cell BX.out 0).trans rfl
  go_wp2_with fail
  refine (h6 _ HB.out).mono ?_
  rintro e w7 ⟨rfl, hb⟩
  replace BX := Aside0.mk (below_blk BX.out hb)
  replace HB := Aside0.mk (below_step HB.out hb)
  clear hb x0 h6
  have x0 := (blk_cell BX.out 0).trans rfl
  clear x0 BX
  go_wp2_with fail
  go_ret
  exact ⟨by first | rfl | simp, HB.out⟩
end Go.Proofs.YticndoihkfbpoaaGreatDoor
