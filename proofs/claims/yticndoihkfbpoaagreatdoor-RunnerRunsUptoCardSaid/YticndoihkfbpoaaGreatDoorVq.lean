/- The reference of the runner: calls, Right. -/
import Derived.Test.YticndoihkfbpoaaGreatDoorVe
namespace Go.Proofs.YticndoihkfbpoaaGreatDoor
open Go Go.RowKit Go.Lib Go.Proofs.YticndoihkfbpoaaGreatDoorW.PrintWords Go.Proofs.YticndoihkfbpoaaGreatDoor.PScope
set_option maxRecDepth 100000
set_option linter.unusedSimpArgs false
set_option linter.unusedVariables false
theorem badL_of {k : Int} {l : List FS} {i : Nat} (hi : i < l.length) (h : badS k (l.getD i zFS) = true) : badL k l = true := by
 rw [badL_any]; exact any_getD_true l (badS k) zFS i hi h
theorem badS_call {k : Int} {s : FS} (h : callBad k s = true) : badS k s = true := by rw [badS_eq, h]; rfl
theorem badS_arms {k : Int} {s : FS} {j : Nat} (hj : j < s.arms.length) (h : badL k (s.arms.getD j zFA).2 = true) : badS k s = true := by
 rw [badS_eq, any_getD_true s.arms (fun a => badL k a.2) zFA j hj h, Bool.or_true]
theorem badS_fine {k : Int} {s : FS} (h : callBad k s = false) (h2 : ∀ j, j < s.arms.length → badL k (s.arms.getD j zFA).2 = false) : badS k s = false := by
 rw [badS_eq, h, any_getD_false s.arms (fun a => badL k a.2) zFA h2]; rfl
def RCallsSays (k : Int) (l : List FS) : Prop := ∀ (w : World) (A : Option Addr) (c : Nat), kFS.C w A l.length l →
 Calls Tryz.prog 63 #[.slice A l.length c, .int .i64 k] w fun e w' => e = .returned (.bool (!badL k l)) ∧ Below w.heap.size w w'
set_option maxHeartbeats 8000000 in
theorem rcalls_calls (k : Int) : ∀ (l : List FS), Small l → RCallsSays k l := by
 intro l hl
 induction hl with
 | mk l h1 h2 h3 ih =>
  intro w A c hC
  have hmax : l.length ≤ 9223372036854775807 := hC.2.1
  have HI := Aside0.mk ih
  have HC := Aside0.mk hC
  have HAR := Aside0.mk h2
  clear h1 h2 h3 ih hC
  obtain ⟨R, hR⟩ : ∃ R, badL k l = R := ⟨_, rfl⟩
  rw [hR]
  have HR := Aside0.mk hR
  clear hR
  go_enter Tryz.func63, Tryz.ntmps63
  go_wp2
  go_loopg [5] l.length (fun gg s5 wr => ∃ (kk : Nat), kk ≤ l.length ∧ l.length - kk ≤ gg ∧ s5 = .int .i64 kk ∧ Aside0 (Below w.heap.size w wr) ∧ Aside0 (∀ j, j < kk → badS k (l.getD j zFS) = false))
  case atStart => exact ⟨0, Nat.zero_le _, by omega, rfl, ⟨Below.refl _ _⟩, ⟨fun j hj => absurd hj (Nat.not_lt_zero _)⟩⟩
  case round =>
   obtain ⟨kk, hkk, hg, rfl, HB, HN⟩ := hrel
   by_cases hlt : kk < l.length
   ·have hltz : (kk : Int) < (l.length : Int) := by omega
    have hk0 : (0 : Int) ≤ (kk : Int) := by omega
    have HM := Aside0.mk (getD_mem hlt zFS)
    have HBO := Aside0.mk (fun h => (HR.out.symm.trans (badL_of (k := k) hlt h)))
    obtain ⟨ead, ecs, rfl, _, eK, ecc⟩ := Kd.C_get HC.out zFS (kk : Int) (by omega) (by omega)
    have eK' := eK
    obtain ⟨eA4, ec4, eA8, ec8, eA9, ec9, eA6, ec6, eA7, ec7, rfl, el4, eg4, el8, eg8, el9, eg9, el6, eg6, el7, eg7⟩ := kFS_openV eK'
    have ex0 := (HB.out.cell (World.block_lt_of_cell? w _ (ecc 0 _ rfl))).trans (ecc 0 _ rfl)
    have ex1 := (HB.out.cell (World.block_lt_of_cell? w _ (ecc 1 _ rfl))).trans (ecc 1 _ rfl)
    have ex2 := (HB.out.cell (World.block_lt_of_cell? w _ (ecc 2 _ rfl))).trans (ecc 2 _ rfl)
    have ex3 := (HB.out.cell (World.block_lt_of_cell? w _ (ecc 3 _ rfl))).trans (ecc 3 _ rfl)
    have ex4 := (HB.out.cell (World.block_lt_of_cell? w _ (ecc 4 _ rfl))).trans (ecc 4 _ rfl)
    have ex5 := (HB.out.cell (World.block_lt_of_cell? w _ (ecc 5 _ rfl))).trans (ecc 5 _ rfl)
    have ex6 := (HB.out.cell (World.block_lt_of_cell? w _ (ecc 6 _ rfl))).trans (ecc 6 _ rfl)
    have ex7 := (HB.out.cell (World.block_lt_of_cell? w _ (ecc 7 _ rfl))).trans (ecc 7 _ rfl)
    have ex8 := (HB.out.cell (World.block_lt_of_cell? w _ (ecc 8 _ rfl))).trans (ecc 8 _ rfl)
    have ex9 := (HB.out.cell (World.block_lt_of_cell? w _ (ecc 9 _ rfl))).trans (ecc 9 _ rfl)
    have ex10 := (HB.out.cell (World.block_lt_of_cell? w _ (ecc 10 _ rfl))).trans (ecc 10 _ rfl)
    have ex11 := (HB.out.cell (World.block_lt_of_cell? w _ (ecc 11 _ rfl))).trans (ecc 11 _ rfl)
    rw [show (kFS).sz = 12 from rfl, Nat.add_zero, Int.toNat_natCast] at ex0
    rw [show (kFS).sz = 12 from rfl, Int.toNat_natCast, add_field _ _ 1 (by omega)] at ex1
    rw [show (kFS).sz = 12 from rfl, Int.toNat_natCast, add_field _ _ 2 (by omega)] at ex2
    rw [show (kFS).sz = 12 from rfl, Int.toNat_natCast, add_field _ _ 3 (by omega)] at ex3
    rw [show (kFS).sz = 12 from rfl, Int.toNat_natCast, add_field _ _ 4 (by omega)] at ex4
    rw [show (kFS).sz = 12 from rfl, Int.toNat_natCast, add_field _ _ 5 (by omega)] at ex5
    rw [show (kFS).sz = 12 from rfl, Int.toNat_natCast, add_field _ _ 6 (by omega)] at ex6
    rw [show (kFS).sz = 12 from rfl, Int.toNat_natCast, add_field _ _ 7 (by omega)] at ex7
    rw [show (kFS).sz = 12 from rfl, Int.toNat_natCast, add_field _ _ 8 (by omega)] at ex8
    rw [show (kFS).sz = 12 from rfl, Int.toNat_natCast, add_field _ _ 9 (by omega)] at ex9
    rw [show (kFS).sz = 12 from rfl, Int.toNat_natCast, add_field _ _ 10 (by omega)] at ex10
    rw [show (kFS).sz = 12 from rfl, Int.toNat_natCast, add_field _ _ 11 (by omega)] at ex11
    clear ecc
    try simp only [Int.toNat_natCast] at ex0 ex1 ex2 ex3 ex4 ex5 ex6 ex7 ex8 ex9 ex10 ex11 eK el4 eg4 el8 eg8 el9 eg9 el6 eg6 el7 eg7
    generalize Ys0 : l.getD kk zFS = s at ex0 ex1 ex2 ex3 ex4 ex5 ex6 ex7 ex8 ex9 ex10 ex11 eK el4 eg4 el8 eg8 el9 eg9 el6 eg6 el7 eg7
    have Ys := Aside0.mk Ys0; clear Ys0
    rw [Ys.out] at HM HBO
    have eL4 := Aside0.mk el4; have eG4 := Aside0.mk eg4; clear el4 eg4
    have eL8 := Aside0.mk el8; have eG8 := Aside0.mk eg8; clear el8 eg8
    have eL9 := Aside0.mk el9; have eG9 := Aside0.mk eg9; clear el9 eg9
    have eL6 := Aside0.mk el6; have eG6 := Aside0.mk eg6; clear el6 eg6
    have eL7 := Aside0.mk el7; have eG7 := Aside0.mk eg7; clear el7 eg7
    clear eK
    have HAL := Aside0.mk (HAR.out s HM.out)
    have HIS := Aside0.mk (HI.out s HM.out)
    by_cases h3 : s.op = 3
    ·skip
     have y3 : (s.op == (3 : Int)) = true := by rw [h3]; rfl
     have HOP := Aside0.mk (show (decide (s.op = 3) || decide (s.op = 4)) = true by rw [decide_eq_true h3]; rfl)
     clear h3
     by_cases h0 : s.fn < 0
     ·have e0 : decide (s.fn < 0) = true := decide_eq_true h0
      have HCB := Aside0.mk (show callBad k s = true by unfold callBad; rw [HOP.out, e0]; rfl)
      clear h0
      go_wp2_with ((with_reducible refine gate_store (t := 41) (p := 6) rfl ?_); refine store_whole rfl rfl 41 _ _ rfl wr.heap.size _ 41 rfl (blk_new _ _) _ rfl rfl rfl (by simp [Value.oneCell']) ?_; intro w2 hb2 hg2; replace HB := Aside0.mk (below_as HB.out hg2); obtain ⟨ge, hq_⟩ : ∃ g_, g_ = wr.heap.size := ⟨_, rfl⟩; rw [← hq_] at hb2; rw [← hq_]; have BE := Aside0.mk hb2; clear hb2 hg2 hq_; have ce_0 := (blk_cell BE.out 0).trans rfl; have ce_1 := (blk_cell BE.out 1).trans rfl; have ce_2 := (blk_cell BE.out 2).trans rfl; have ce_3 := (blk_cell BE.out 3).trans rfl; have ce_4 := (blk_cell BE.out 4).trans rfl; have ce_5 := (blk_cell BE.out 5).trans rfl; have ce_6 := (blk_cell BE.out 6).trans rfl; have ce_7 := (blk_cell BE.out 7).trans rfl; have ce_8 := (blk_cell BE.out 8).trans rfl; have ce_9 := (blk_cell BE.out 9).trans rfl; have ce_10 := (blk_cell BE.out 10).trans rfl; have ce_11 := (blk_cell BE.out 11).trans rfl)
      go_ret
      exact ⟨by rw [HBO.out (badS_call HCB.out)]; rfl, HB.out⟩
     have e0 : decide (s.fn < 0) = false := decide_eq_false h0
     clear h0
     by_cases h1 : s.fn ≥ k
     ·have e1 : decide (s.fn ≥ k) = true := decide_eq_true h1
      have HCB := Aside0.mk (show callBad k s = true by unfold callBad; rw [HOP.out, e0, e1]; rfl)
      clear h1
      go_wp2_with ((with_reducible refine gate_store (t := 41) (p := 6) rfl ?_); refine store_whole rfl rfl 41 _ _ rfl wr.heap.size _ 41 rfl (blk_new _ _) _ rfl rfl rfl (by simp [Value.oneCell']) ?_; intro w2 hb2 hg2; replace HB := Aside0.mk (below_as HB.out hg2); obtain ⟨ge, hq_⟩ : ∃ g_, g_ = wr.heap.size := ⟨_, rfl⟩; rw [← hq_] at hb2; rw [← hq_]; have BE := Aside0.mk hb2; clear hb2 hg2 hq_; have ce_0 := (blk_cell BE.out 0).trans rfl; have ce_1 := (blk_cell BE.out 1).trans rfl; have ce_2 := (blk_cell BE.out 2).trans rfl; have ce_3 := (blk_cell BE.out 3).trans rfl; have ce_4 := (blk_cell BE.out 4).trans rfl; have ce_5 := (blk_cell BE.out 5).trans rfl; have ce_6 := (blk_cell BE.out 6).trans rfl; have ce_7 := (blk_cell BE.out 7).trans rfl; have ce_8 := (blk_cell BE.out 8).trans rfl; have ce_9 := (blk_cell BE.out 9).trans rfl; have ce_10 := (blk_cell BE.out 10).trans rfl; have ce_11 := (blk_cell BE.out 11).trans rfl)
      go_ret
      exact ⟨by rw [HBO.out (badS_call HCB.out)]; rfl, HB.out⟩
     have e1 : decide (s.fn ≥ k) = false := decide_eq_false h1
     clear h1
     have HCB := Aside0.mk (show callBad k s = false by unfold callBad; rw [HOP.out, e0, e1]; rfl)
     go_wp2_with ((with_reducible refine gate_store (t := 41) (p := 6) rfl ?_); refine store_whole rfl rfl 41 _ _ rfl wr.heap.size _ 41 rfl (blk_new _ _) _ rfl rfl rfl (by simp [Value.oneCell']) ?_; intro w2 hb2 hg2; replace HB := Aside0.mk (below_as HB.out hg2); obtain ⟨ge, hq_⟩ : ∃ g_, g_ = wr.heap.size := ⟨_, rfl⟩; rw [← hq_] at hb2; rw [← hq_]; have BE := Aside0.mk hb2; clear hb2 hg2 hq_; have ce_0 := (blk_cell BE.out 0).trans rfl; have ce_1 := (blk_cell BE.out 1).trans rfl; have ce_2 := (blk_cell BE.out 2).trans rfl; have ce_3 := (blk_cell BE.out 3).trans rfl; have ce_4 := (blk_cell BE.out 4).trans rfl; have ce_5 := (blk_cell BE.out 5).trans rfl; have ce_6 := (blk_cell BE.out 6).trans rfl; have ce_7 := (blk_cell BE.out 7).trans rfl; have ce_8 := (blk_cell BE.out 8).trans rfl; have ce_9 := (blk_cell BE.out 9).trans rfl; have ce_10 := (blk_cell BE.out 10).trans rfl; have ce_11 := (blk_cell BE.out 11).trans rfl)
     clear ce_0 ce_1 ce_2 ce_3 ce_4 ce_5 ce_6 ce_7 ce_8 ce_9 ce_10 ce_11
     have haml : s.arms.length ≤ 8796093022208 := HAL.out
     go_loopg [7] s.arms.length (fun gg s7 wr => ∃ (jj : Nat), jj ≤ s.arms.length ∧ s.arms.length - jj ≤ gg ∧ s7 = .int .i64 jj ∧ Aside0 (Below w.heap.size w wr) ∧ Aside0 (wr.heap[ge]? = some (.cells #[.int .i64 s.op, .string s.name, .int .i64 s.pos, .int .i64 s.fn, .slice eA4 (s.names).length ec4, .int .i64 s.e.f0, .string s.e.f1, .int .i64 s.e.f2, .slice eA8 (s.e.f3).length ec8, .slice eA9 (s.e.f4).length ec9, .slice eA6 (s.args).length ec6, .slice eA7 (s.arms).length ec7] 41 (0, 0))) ∧ Aside0 (∀ j, j < jj → badL k (s.arms.getD j zFA).2 = false))
     case atStart => exact ⟨0, Nat.zero_le _, by omega, rfl, HB, BE, ⟨fun j hj => absurd hj (Nat.not_lt_zero _)⟩⟩
     case round =>
      clear HB BE
      obtain ⟨jj, hjj, hgj, rfl, HB, BE, HNJ⟩ := hrel
      have ce_7 := (blk_cell BE.out 11).trans rfl
      by_cases hltj : jj < s.arms.length
      ·have hltzj : (jj : Int) < (s.arms.length : Int) := by omega
       have hj0 : (0 : Int) ≤ (jj : Int) := by omega
       have HMA := Aside0.mk (getD_mem hltj zFA)
       have HBA := Aside0.mk (fun h => HBO.out (badS_arms (k := k) hltj h))
       obtain ⟨fad, fcs, rfl, _, fK, fcc⟩ := Kd.C_get eG7.out zFA (jj : Int) (by omega) (by omega)
       have fK' := fK
       obtain ⟨fA1, fc1, rfl, fl1, fg1⟩ := kFA_open fK'
       have fx0 := (HB.out.cell (World.block_lt_of_cell? w _ (fcc 0 _ rfl))).trans (fcc 0 _ rfl)
       have fx1 := (HB.out.cell (World.block_lt_of_cell? w _ (fcc 1 _ rfl))).trans (fcc 1 _ rfl)
       rw [show (kFA).sz = 2 from rfl, Nat.add_zero, Int.toNat_natCast] at fx0
       rw [show (kFA).sz = 2 from rfl, Int.toNat_natCast, add_field _ _ 1 (by omega)] at fx1
       clear fcc
       try simp only [Int.toNat_natCast] at fx0 fx1 fK fl1 fg1
       generalize Ya0 : s.arms.getD jj zFA = a at fx0 fx1 fK fl1 fg1
       have Ya := Aside0.mk Ya0; clear Ya0
       rw [Ya.out] at HMA HBA
       have fL1 := Aside0.mk fl1; have fG1 := Aside0.mk fg1; clear fl1 fg1
       clear fK
       have hcall := fun (W : World) (hB : Below w.heap.size w W) => HIS.out a HMA.out W fA1 fc1 (Kd.C_below fG1.out hB)
       obtain ⟨bb, hbb⟩ : ∃ bb, badL k a.2 = bb := ⟨_, rfl⟩
       rw [hbb] at hcall
       have HBB := Aside0.mk hbb
       clear hbb
       go_wp2_with fail
       refine (hcall _ HB.out).mono ?_
       rintro e w7 ⟨rfl, hb⟩
       replace BE := Aside0.mk (below_blk BE.out hb)
       replace HB := Aside0.mk (below_step HB.out hb)
       clear hb hcall ce_7
       cases bb with
       | true =>
        go_wp2_with fail
        go_ret
        exact ⟨by rw [HBA.out HBB.out]; rfl, HB.out⟩
       | false =>
       go_wp2_with fail
       go_roundg (s.arms.length - (jj + 1))
       case measure => omega
       case rel =>
        refine ⟨jj + 1, by omega, by omega, by go_num, HB, BE, ⟨fun j hj => ?_⟩⟩
        by_cases e : j = jj
        ·subst e; rw [Ya.out]; exact HBB.out
        ·exact HNJ.out j (by omega)
      ·have hltzj : ¬ (jj : Int) < (s.arms.length : Int) := by omega
       obtain rfl : jj = s.arms.length := by omega
       have HBS := Aside0.mk (badS_fine HCB.out HNJ.out)
       clear HNJ hgj hjj hltj
       go_wp2_with fail
       go_roundg (l.length - (kk + 1))
       case measure => omega
       case rel =>
        refine ⟨kk + 1, by omega, by omega, by go_num, HB, ⟨fun j hj => ?_⟩⟩
        by_cases e : j = kk
        ·subst e; rw [Ys.out]; exact HBS.out
        ·exact HN.out j (by omega)
    have y3 : (s.op == (3 : Int)) = false := beq_eq_false_iff_ne.2 h3
    by_cases h4 : s.op = 4
    ·skip
     have y4 : (s.op == (4 : Int)) = true := by rw [h4]; rfl
     have HOP := Aside0.mk (show (decide (s.op = 3) || decide (s.op = 4)) = true by rw [decide_eq_true h4, Bool.or_true])
     clear h3 h4
     by_cases h0 : s.fn < 0
     ·have e0 : decide (s.fn < 0) = true := decide_eq_true h0
      have HCB := Aside0.mk (show callBad k s = true by unfold callBad; rw [HOP.out, e0]; rfl)
      clear h0
      go_wp2_with ((with_reducible refine gate_store (t := 41) (p := 6) rfl ?_); refine store_whole rfl rfl 41 _ _ rfl wr.heap.size _ 41 rfl (blk_new _ _) _ rfl rfl rfl (by simp [Value.oneCell']) ?_; intro w2 hb2 hg2; replace HB := Aside0.mk (below_as HB.out hg2); obtain ⟨ge, hq_⟩ : ∃ g_, g_ = wr.heap.size := ⟨_, rfl⟩; rw [← hq_] at hb2; rw [← hq_]; have BE := Aside0.mk hb2; clear hb2 hg2 hq_; have ce_0 := (blk_cell BE.out 0).trans rfl; have ce_1 := (blk_cell BE.out 1).trans rfl; have ce_2 := (blk_cell BE.out 2).trans rfl; have ce_3 := (blk_cell BE.out 3).trans rfl; have ce_4 := (blk_cell BE.out 4).trans rfl; have ce_5 := (blk_cell BE.out 5).trans rfl; have ce_6 := (blk_cell BE.out 6).trans rfl; have ce_7 := (blk_cell BE.out 7).trans rfl; have ce_8 := (blk_cell BE.out 8).trans rfl; have ce_9 := (blk_cell BE.out 9).trans rfl; have ce_10 := (blk_cell BE.out 10).trans rfl; have ce_11 := (blk_cell BE.out 11).trans rfl)
      go_ret
      exact ⟨by rw [HBO.out (badS_call HCB.out)]; rfl, HB.out⟩
     have e0 : decide (s.fn < 0) = false := decide_eq_false h0
     clear h0
     by_cases h1 : s.fn ≥ k
     ·have e1 : decide (s.fn ≥ k) = true := decide_eq_true h1
      have HCB := Aside0.mk (show callBad k s = true by unfold callBad; rw [HOP.out, e0, e1]; rfl)
      clear h1
      go_wp2_with ((with_reducible refine gate_store (t := 41) (p := 6) rfl ?_); refine store_whole rfl rfl 41 _ _ rfl wr.heap.size _ 41 rfl (blk_new _ _) _ rfl rfl rfl (by simp [Value.oneCell']) ?_; intro w2 hb2 hg2; replace HB := Aside0.mk (below_as HB.out hg2); obtain ⟨ge, hq_⟩ : ∃ g_, g_ = wr.heap.size := ⟨_, rfl⟩; rw [← hq_] at hb2; rw [← hq_]; have BE := Aside0.mk hb2; clear hb2 hg2 hq_; have ce_0 := (blk_cell BE.out 0).trans rfl; have ce_1 := (blk_cell BE.out 1).trans rfl; have ce_2 := (blk_cell BE.out 2).trans rfl; have ce_3 := (blk_cell BE.out 3).trans rfl; have ce_4 := (blk_cell BE.out 4).trans rfl; have ce_5 := (blk_cell BE.out 5).trans rfl; have ce_6 := (blk_cell BE.out 6).trans rfl; have ce_7 := (blk_cell BE.out 7).trans rfl; have ce_8 := (blk_cell BE.out 8).trans rfl; have ce_9 := (blk_cell BE.out 9).trans rfl; have ce_10 := (blk_cell BE.out 10).trans rfl; have ce_11 := (blk_cell BE.out 11).trans rfl)
      go_ret
      exact ⟨by rw [HBO.out (badS_call HCB.out)]; rfl, HB.out⟩
     have e1 : decide (s.fn ≥ k) = false := decide_eq_false h1
     clear h1
     have HCB := Aside0.mk (show callBad k s = false by unfold callBad; rw [HOP.out, e0, e1]; rfl)
     go_wp2_with ((with_reducible refine gate_store (t := 41) (p := 6) rfl ?_); refine store_whole rfl rfl 41 _ _ rfl wr.heap.size _ 41 rfl (blk_new _ _) _ rfl rfl rfl (by simp [Value.oneCell']) ?_; intro w2 hb2 hg2; replace HB := Aside0.mk (below_as HB.out hg2); obtain ⟨ge, hq_⟩ : ∃ g_, g_ = wr.heap.size := ⟨_, rfl⟩; rw [← hq_] at hb2; rw [← hq_]; have BE := Aside0.mk hb2; clear hb2 hg2 hq_; have ce_0 := (blk_cell BE.out 0).trans rfl; have ce_1 := (blk_cell BE.out 1).trans rfl; have ce_2 := (blk_cell BE.out 2).trans rfl; have ce_3 := (blk_cell BE.out 3).trans rfl; have ce_4 := (blk_cell BE.out 4).trans rfl; have ce_5 := (blk_cell BE.out 5).trans rfl; have ce_6 := (blk_cell BE.out 6).trans rfl; have ce_7 := (blk_cell BE.out 7).trans rfl; have ce_8 := (blk_cell BE.out 8).trans rfl; have ce_9 := (blk_cell BE.out 9).trans rfl; have ce_10 := (blk_cell BE.out 10).trans rfl; have ce_11 := (blk_cell BE.out 11).trans rfl)
     clear ce_0 ce_1 ce_2 ce_3 ce_4 ce_5 ce_6 ce_7 ce_8 ce_9 ce_10 ce_11
     have haml : s.arms.length ≤ 8796093022208 := HAL.out
     go_loopg [7] s.arms.length (fun gg s7 wr => ∃ (jj : Nat), jj ≤ s.arms.length ∧ s.arms.length - jj ≤ gg ∧ s7 = .int .i64 jj ∧ Aside0 (Below w.heap.size w wr) ∧ Aside0 (wr.heap[ge]? = some (.cells #[.int .i64 s.op, .string s.name, .int .i64 s.pos, .int .i64 s.fn, .slice eA4 (s.names).length ec4, .int .i64 s.e.f0, .string s.e.f1, .int .i64 s.e.f2, .slice eA8 (s.e.f3).length ec8, .slice eA9 (s.e.f4).length ec9, .slice eA6 (s.args).length ec6, .slice eA7 (s.arms).length ec7] 41 (0, 0))) ∧ Aside0 (∀ j, j < jj → badL k (s.arms.getD j zFA).2 = false))
     case atStart => exact ⟨0, Nat.zero_le _, by omega, rfl, HB, BE, ⟨fun j hj => absurd hj (Nat.not_lt_zero _)⟩⟩
     case round =>
      clear HB BE
      obtain ⟨jj, hjj, hgj, rfl, HB, BE, HNJ⟩ := hrel
      have ce_7 := (blk_cell BE.out 11).trans rfl
      by_cases hltj : jj < s.arms.length
      ·have hltzj : (jj : Int) < (s.arms.length : Int) := by omega
       have hj0 : (0 : Int) ≤ (jj : Int) := by omega
       have HMA := Aside0.mk (getD_mem hltj zFA)
       have HBA := Aside0.mk (fun h => HBO.out (badS_arms (k := k) hltj h))
       obtain ⟨fad, fcs, rfl, _, fK, fcc⟩ := Kd.C_get eG7.out zFA (jj : Int) (by omega) (by omega)
       have fK' := fK
       obtain ⟨fA1, fc1, rfl, fl1, fg1⟩ := kFA_open fK'
       have fx0 := (HB.out.cell (World.block_lt_of_cell? w _ (fcc 0 _ rfl))).trans (fcc 0 _ rfl)
       have fx1 := (HB.out.cell (World.block_lt_of_cell? w _ (fcc 1 _ rfl))).trans (fcc 1 _ rfl)
       rw [show (kFA).sz = 2 from rfl, Nat.add_zero, Int.toNat_natCast] at fx0
       rw [show (kFA).sz = 2 from rfl, Int.toNat_natCast, add_field _ _ 1 (by omega)] at fx1
       clear fcc
       try simp only [Int.toNat_natCast] at fx0 fx1 fK fl1 fg1
       generalize Ya0 : s.arms.getD jj zFA = a at fx0 fx1 fK fl1 fg1
       have Ya := Aside0.mk Ya0; clear Ya0
       rw [Ya.out] at HMA HBA
       have fL1 := Aside0.mk fl1; have fG1 := Aside0.mk fg1; clear fl1 fg1
       clear fK
       have hcall := fun (W : World) (hB : Below w.heap.size w W) => HIS.out a HMA.out W fA1 fc1 (Kd.C_below fG1.out hB)
       obtain ⟨bb, hbb⟩ : ∃ bb, badL k a.2 = bb := ⟨_, rfl⟩
       rw [hbb] at hcall
       have HBB := Aside0.mk hbb
       clear hbb
       go_wp2_with fail
       refine (hcall _ HB.out).mono ?_
       rintro e w7 ⟨rfl, hb⟩
       replace BE := Aside0.mk (below_blk BE.out hb)
       replace HB := Aside0.mk (below_step HB.out hb)
       clear hb hcall ce_7
       cases bb with
       | true =>
        go_wp2_with fail
        go_ret
        exact ⟨by rw [HBA.out HBB.out]; rfl, HB.out⟩
       | false =>
       go_wp2_with fail
       go_roundg (s.arms.length - (jj + 1))
       case measure => omega
       case rel =>
        refine ⟨jj + 1, by omega, by omega, by go_num, HB, BE, ⟨fun j hj => ?_⟩⟩
        by_cases e : j = jj
        ·subst e; rw [Ya.out]; exact HBB.out
        ·exact HNJ.out j (by omega)
      ·have hltzj : ¬ (jj : Int) < (s.arms.length : Int) := by omega
       obtain rfl : jj = s.arms.length := by omega
       have HBS := Aside0.mk (badS_fine HCB.out HNJ.out)
       clear HNJ hgj hjj hltj
       go_wp2_with fail
       go_roundg (l.length - (kk + 1))
       case measure => omega
       case rel =>
        refine ⟨kk + 1, by omega, by omega, by go_num, HB, ⟨fun j hj => ?_⟩⟩
        by_cases e : j = kk
        ·subst e; rw [Ys.out]; exact HBS.out
        ·exact HN.out j (by omega)
    have y4 : (s.op == (4 : Int)) = false := beq_eq_false_iff_ne.2 h4
    have HCB := Aside0.mk (show callBad k s = false by unfold callBad; rw [decide_eq_false h3, decide_eq_false h4]; rfl)
    clear h3 h4
    go_wp2_with ((with_reducible refine gate_store (t := 41) (p := 6) rfl ?_); refine store_whole rfl rfl 41 _ _ rfl wr.heap.size _ 41 rfl (blk_new _ _) _ rfl rfl rfl (by simp [Value.oneCell']) ?_; intro w2 hb2 hg2; replace HB := Aside0.mk (below_as HB.out hg2); obtain ⟨ge, hq_⟩ : ∃ g_, g_ = wr.heap.size := ⟨_, rfl⟩; rw [← hq_] at hb2; rw [← hq_]; have BE := Aside0.mk hb2; clear hb2 hg2 hq_; have ce_0 := (blk_cell BE.out 0).trans rfl; have ce_1 := (blk_cell BE.out 1).trans rfl; have ce_2 := (blk_cell BE.out 2).trans rfl; have ce_3 := (blk_cell BE.out 3).trans rfl; have ce_4 := (blk_cell BE.out 4).trans rfl; have ce_5 := (blk_cell BE.out 5).trans rfl; have ce_6 := (blk_cell BE.out 6).trans rfl; have ce_7 := (blk_cell BE.out 7).trans rfl; have ce_8 := (blk_cell BE.out 8).trans rfl; have ce_9 := (blk_cell BE.out 9).trans rfl; have ce_10 := (blk_cell BE.out 10).trans rfl; have ce_11 := (blk_cell BE.out 11).trans rfl)
    clear ce_0 ce_1 ce_2 ce_3 ce_4 ce_5 ce_6 ce_7 ce_8 ce_9 ce_10 ce_11
    have haml : s.arms.length ≤ 8796093022208 := HAL.out
    go_loopg [7] s.arms.length (fun gg s7 wr => ∃ (jj : Nat), jj ≤ s.arms.length ∧ s.arms.length - jj ≤ gg ∧ s7 = .int .i64 jj ∧ Aside0 (Below w.heap.size w wr) ∧ Aside0 (wr.heap[ge]? = some (.cells #[.int .i64 s.op, .string s.name, .int .i64 s.pos, .int .i64 s.fn, .slice eA4 (s.names).length ec4, .int .i64 s.e.f0, .string s.e.f1, .int .i64 s.e.f2, .slice eA8 (s.e.f3).length ec8, .slice eA9 (s.e.f4).length ec9, .slice eA6 (s.args).length ec6, .slice eA7 (s.arms).length ec7] 41 (0, 0))) ∧ Aside0 (∀ j, j < jj → badL k (s.arms.getD j zFA).2 = false))
    case atStart => exact ⟨0, Nat.zero_le _, by omega, rfl, HB, BE, ⟨fun j hj => absurd hj (Nat.not_lt_zero _)⟩⟩
    case round =>
     clear HB BE
     obtain ⟨jj, hjj, hgj, rfl, HB, BE, HNJ⟩ := hrel
     have ce_7 := (blk_cell BE.out 11).trans rfl
     by_cases hltj : jj < s.arms.length
     ·have hltzj : (jj : Int) < (s.arms.length : Int) := by omega
      have hj0 : (0 : Int) ≤ (jj : Int) := by omega
      have HMA := Aside0.mk (getD_mem hltj zFA)
      have HBA := Aside0.mk (fun h => HBO.out (badS_arms (k := k) hltj h))
      obtain ⟨fad, fcs, rfl, _, fK, fcc⟩ := Kd.C_get eG7.out zFA (jj : Int) (by omega) (by omega)
      have fK' := fK
      obtain ⟨fA1, fc1, rfl, fl1, fg1⟩ := kFA_open fK'
      have fx0 := (HB.out.cell (World.block_lt_of_cell? w _ (fcc 0 _ rfl))).trans (fcc 0 _ rfl)
      have fx1 := (HB.out.cell (World.block_lt_of_cell? w _ (fcc 1 _ rfl))).trans (fcc 1 _ rfl)
      rw [show (kFA).sz = 2 from rfl, Nat.add_zero, Int.toNat_natCast] at fx0
      rw [show (kFA).sz = 2 from rfl, Int.toNat_natCast, add_field _ _ 1 (by omega)] at fx1
      clear fcc
      try simp only [Int.toNat_natCast] at fx0 fx1 fK fl1 fg1
      generalize Ya0 : s.arms.getD jj zFA = a at fx0 fx1 fK fl1 fg1
      have Ya := Aside0.mk Ya0; clear Ya0
      rw [Ya.out] at HMA HBA
      have fL1 := Aside0.mk fl1; have fG1 := Aside0.mk fg1; clear fl1 fg1
      clear fK
      have hcall := fun (W : World) (hB : Below w.heap.size w W) => HIS.out a HMA.out W fA1 fc1 (Kd.C_below fG1.out hB)
      obtain ⟨bb, hbb⟩ : ∃ bb, badL k a.2 = bb := ⟨_, rfl⟩
      rw [hbb] at hcall
      have HBB := Aside0.mk hbb
      clear hbb
      go_wp2_with fail
      refine (hcall _ HB.out).mono ?_
      rintro e w7 ⟨rfl, hb⟩
      replace BE := Aside0.mk (below_blk BE.out hb)
      replace HB := Aside0.mk (below_step HB.out hb)
      clear hb hcall ce_7
      cases bb with
      | true =>
       go_wp2_with fail
       go_ret
       exact ⟨by rw [HBA.out HBB.out]; rfl, HB.out⟩
      | false =>
      go_wp2_with fail
      go_roundg (s.arms.length - (jj + 1))
      case measure => omega
      case rel =>
       refine ⟨jj + 1, by omega, by omega, by go_num, HB, BE, ⟨fun j hj => ?_⟩⟩
       by_cases e : j = jj
       ·subst e; rw [Ya.out]; exact HBB.out
       ·exact HNJ.out j (by omega)
     ·have hltzj : ¬ (jj : Int) < (s.arms.length : Int) := by omega
      obtain rfl : jj = s.arms.length := by omega
      have HBS := Aside0.mk (badS_fine HCB.out HNJ.out)
      clear HNJ hgj hjj hltj
      go_wp2_with fail
      go_roundg (l.length - (kk + 1))
      case measure => omega
      case rel =>
       refine ⟨kk + 1, by omega, by omega, by go_num, HB, ⟨fun j hj => ?_⟩⟩
       by_cases e : j = kk
       ·subst e; rw [Ys.out]; exact HBS.out
       ·exact HN.out j (by omega)
   ·have hltz : ¬ (kk : Int) < (l.length : Int) := by omega
    obtain rfl : kk = l.length := by omega
    have HE := Aside0.mk (show R = false by rw [← HR.out, badL_any]; exact any_getD_false l (badS k) zFS HN.out)
    go_wp2
    go_ret
    exact ⟨by rw [HE.out]; rfl, HB.out⟩
end Go.Proofs.YticndoihkfbpoaaGreatDoor
