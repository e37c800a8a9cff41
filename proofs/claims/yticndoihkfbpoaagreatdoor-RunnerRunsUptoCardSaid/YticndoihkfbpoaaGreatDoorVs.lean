/- The reference of the runner: Right. -/
import Derived.Test.YticndoihkfbpoaaGreatDoorVq
namespace Go.Proofs.YticndoihkfbpoaaGreatDoor
open Go Go.RowKit Go.Lib Go.Proofs.YticndoihkfbpoaaGreatDoorW.PrintWords Go.Proofs.YticndoihkfbpoaaGreatDoor.PScope
set_option maxRecDepth 100000
set_option linter.unusedSimpArgs false
set_option linter.unusedVariables false
set_option maxHeartbeats 8000000 in
theorem rright_calls (l : List FF) (hl : FlatSmall l) (w : World) (A : Option Addr) (c : Nat) (hC : kFF.C w A l.length l) :
  Calls Tryz.prog 40 #[.agg #[.slice A l.length c]] w fun e w' => e = .returned (.bool (flatOk l)) ∧ Below w.heap.size w w' := by
 have hmax : l.length ≤ 1099511627744 := hl.len
 have HC := Aside0.mk hC
 have HSM := Aside0.mk hl.body
 clear hl hC
 obtain ⟨R, hR⟩ : ∃ R, flatOk l = R := ⟨_, rfl⟩
 rw [hR]
 have HR := Aside0.mk hR
 clear hR
 go_enter Tryz.func40, Tryz.ntmps40
 go_wp2
 have BX := Aside0.mk (blk_new w (.cells #[.slice A l.length c] 24 (0, 0)))
 have HB := Aside0.mk (below_alloc (Below.refl _ w) (.cells #[.slice A l.length c] 24 (0, 0)))
 generalize w.alloc (.cells #[.slice A l.length c] 24 (0, 0)) = w1 at BX HB ⊢
 obtain ⟨gx, hgx⟩ : ∃ gx, w.heap.size = gx := ⟨_, rfl⟩
 rw [hgx] at BX
 rw [show (Value.pointer (some ⟨w.heap.size, 0, none⟩)) = Value.pointer (some ⟨gx, 0, none⟩) by rw [hgx]]
 have LX := Aside0.mk (show w.heap.size ≤ gx by omega)
 clear hgx
 go_loopg [3] l.length (fun gg s_ wr => ∃ (kk : Nat), kk ≤ l.length ∧ l.length - kk ≤ gg ∧ s_ = .int .i64 kk ∧ Aside0 (Below w.heap.size w wr) ∧ Aside0 (wr.heap[gx]? = some (.cells #[.slice A l.length c] 24 (0, 0))) ∧ Aside0 (anyBad l kk (l.drop kk) = anyBad l 0 l))
 case atStart => exact ⟨0, Nat.zero_le _, by omega, rfl, HB, BX, ⟨rfl⟩⟩
 case round =>
  clear HB BX
  obtain ⟨kk, hkk, hg, rfl, HB, BX, HA⟩ := hrel
  have x0 := (blk_cell BX.out 0).trans rfl
  by_cases hlt : kk < l.length
  ·have hltz : (kk : Int) < (l.length : Int) := by omega
   have hk0 : (0 : Int) ≤ (kk : Int) := by omega
   have HM := Aside0.mk (getD_mem hlt zFF)
   have HBAD := Aside0.mk (fun h => HR.out.symm.trans (flat_bad hlt HA.out h))
   have HDR := Aside0.mk (drop_getD l kk hlt zFF)
   obtain ⟨ead, ecs, rfl, _, eK, ecc⟩ := Kd.C_get HC.out zFF (kk : Int) (by omega) (by omega)
   have eK' := eK
   obtain ⟨eA0, ec0, eA1, ec1, eA3, ec3, eA4, ec4, eA5, ec5, rfl, el0, eg0, el1, eg1, el3, eg3, el4, eg4, el5, eg5⟩ := kFF_open6 eK'
   have ex0 := (HB.out.cell (World.block_lt_of_cell? w _ (ecc 0 _ rfl))).trans (ecc 0 _ rfl)
   have ex1 := (HB.out.cell (World.block_lt_of_cell? w _ (ecc 1 _ rfl))).trans (ecc 1 _ rfl)
   have ex2 := (HB.out.cell (World.block_lt_of_cell? w _ (ecc 2 _ rfl))).trans (ecc 2 _ rfl)
   have ex3 := (HB.out.cell (World.block_lt_of_cell? w _ (ecc 3 _ rfl))).trans (ecc 3 _ rfl)
   have ex4 := (HB.out.cell (World.block_lt_of_cell? w _ (ecc 4 _ rfl))).trans (ecc 4 _ rfl)
   have ex5 := (HB.out.cell (World.block_lt_of_cell? w _ (ecc 5 _ rfl))).trans (ecc 5 _ rfl)
   rw [show (kFF).sz = 6 from rfl, Nat.add_zero, Int.toNat_natCast] at ex0
   rw [show (kFF).sz = 6 from rfl, Int.toNat_natCast, add_field _ _ 1 (by omega)] at ex1
   rw [show (kFF).sz = 6 from rfl, Int.toNat_natCast, add_field _ _ 2 (by omega)] at ex2
   rw [show (kFF).sz = 6 from rfl, Int.toNat_natCast, add_field _ _ 3 (by omega)] at ex3
   rw [show (kFF).sz = 6 from rfl, Int.toNat_natCast, add_field _ _ 4 (by omega)] at ex4
   rw [show (kFF).sz = 6 from rfl, Int.toNat_natCast, add_field _ _ 5 (by omega)] at ex5
   clear ecc
   try simp only [Int.toNat_natCast] at ex0 ex1 ex2 ex3 ex4 ex5 eK el0 eg0 el1 eg1 el3 eg3 el4 eg4 el5 eg5
   generalize Yx0 : l.getD kk zFF = x at ex0 ex1 ex2 ex3 ex4 ex5 eK el0 eg0 el1 eg1 el3 eg3 el4 eg4 el5 eg5
   have Yx := Aside0.mk Yx0; clear Yx0
   rw [Yx.out] at HBAD HM HDR
   have eL0 := Aside0.mk el0; have eG0 := Aside0.mk eg0; clear el0 eg0
   have eL1 := Aside0.mk el1; have eG1 := Aside0.mk eg1; clear el1 eg1
   have eL3 := Aside0.mk el3; have eG3 := Aside0.mk eg3; clear el3 eg3
   have eL4 := Aside0.mk el4; have eG4 := Aside0.mk eg4; clear el4 eg4
   have eL5 := Aside0.mk el5; have eG5 := Aside0.mk eg5; clear el5 eg5
   clear eK
   have HSB := Aside0.mk (HSM.out x HM.out)
   go_upto_region 5 with ((with_reducible refine gate_store (t := 35) (p := 4) rfl ?_); refine store_whole rfl rfl 35 _ _ rfl wr.heap.size _ 35 rfl (blk_new _ _) _ rfl rfl rfl (by simp [Value.oneCell']) ?_; intro w2 hb2 hg2; have H0_ := HB.out.size; replace BX := Aside0.mk (blk_as BX.out hg2); replace HB := Aside0.mk (below_as HB.out hg2); obtain ⟨ge, hq_⟩ : ∃ g_, g_ = wr.heap.size := ⟨_, rfl⟩; rw [← hq_] at hb2; rw [← hq_]; have BE1 := Aside0.mk hb2; have LBE1 := Aside0.mk (show w.heap.size ≤ ge by rw [hq_]; exact H0_); have NBE1 := Aside0.mk (show ge = wr.heap.size from hq_); clear hb2 hg2 hq_; have ce_0 := (blk_cell BE1.out 0).trans rfl; have ce_1 := (blk_cell BE1.out 1).trans rfl; have ce_2 := (blk_cell BE1.out 2).trans rfl; have ce_3 := (blk_cell BE1.out 3).trans rfl; have ce_4 := (blk_cell BE1.out 4).trans rfl; have ce_5 := (blk_cell BE1.out 5).trans rfl; clear H0_)
   clear x0 ce_0 ce_1 ce_2 ce_3 ce_4 ce_5
   have hbel := fun (W : World) (hB : Below w.heap.size w W) => rcalls_calls (kk : Int) x.body HSB.out W eA5 ec5 (Kd.C_below eG5.out hB)
   obtain ⟨bb, hbb⟩ : ∃ bb, badL (kk : Int) x.body = bb := ⟨_, rfl⟩
   rw [hbb] at hbel
   have HBL := Aside0.mk hbb
   clear hbb
   by_cases d0 : x.cells < 0
   ·have e0 : decide (x.cells < 0) = true := decide_eq_true d0
    clear d0 hbel
    have ce_0 := (blk_cell BE1.out 0).trans rfl
    have ce_1 := (blk_cell BE1.out 1).trans rfl
    have ce_2 := (blk_cell BE1.out 2).trans rfl
    have ce_3 := (blk_cell BE1.out 3).trans rfl
    have ce_4 := (blk_cell BE1.out 4).trans rfl
    have ce_5 := (blk_cell BE1.out 5).trans rfl
    go_wp2_with fail
    go_ret
    exact ⟨by rw [HBAD.out (by unfold funBad headBad; simp only [e0, Bool.true_or, Bool.or_true, Bool.false_or, Bool.or_false])]; rfl, HB.out⟩
   have e0 : decide (x.cells < 0) = false := decide_eq_false d0
   have D0 := Aside0.mk d0
   clear d0
   by_cases d1 : x.cells > 1000
   ·have e1 : decide (x.cells > 1000) = true := decide_eq_true d1
    clear d1 hbel
    have ce_0 := (blk_cell BE1.out 0).trans rfl
    have ce_1 := (blk_cell BE1.out 1).trans rfl
    have ce_2 := (blk_cell BE1.out 2).trans rfl
    have ce_3 := (blk_cell BE1.out 3).trans rfl
    have ce_4 := (blk_cell BE1.out 4).trans rfl
    have ce_5 := (blk_cell BE1.out 5).trans rfl
    go_wp2_with fail
    go_ret
    exact ⟨by rw [HBAD.out (by unfold funBad headBad; simp only [e0, e1, Bool.true_or, Bool.or_true, Bool.false_or, Bool.or_false])]; rfl, HB.out⟩
   have e1 : decide (x.cells > 1000) = false := decide_eq_false d1
   have D1 := Aside0.mk d1
   clear d1
   have ce_0 := (blk_cell BE1.out 0).trans rfl
   have ce_1 := (blk_cell BE1.out 1).trans rfl
   have ce_2 := (blk_cell BE1.out 2).trans rfl
   have ce_3 := (blk_cell BE1.out 3).trans rfl
   have ce_4 := (blk_cell BE1.out 4).trans rfl
   have ce_5 := (blk_cell BE1.out 5).trans rfl
   go_wp2_with fail
   refine (hbel _ HB.out).mono ?_
   rintro e w5 ⟨rfl, hb⟩
   clear ce_0 ce_1 ce_2 ce_3 ce_4 ce_5 hbel
   replace BX := Aside0.mk (below_blk BX.out hb)
   replace BE1 := Aside0.mk (below_blk BE1.out hb)
   replace HB := Aside0.mk (below_step HB.out hb)
   clear hb
   cases bb with
   | true =>
    have ce_0 := (blk_cell BE1.out 0).trans rfl
    have ce_1 := (blk_cell BE1.out 1).trans rfl
    have ce_2 := (blk_cell BE1.out 2).trans rfl
    have ce_3 := (blk_cell BE1.out 3).trans rfl
    have ce_4 := (blk_cell BE1.out 4).trans rfl
    have ce_5 := (blk_cell BE1.out 5).trans rfl
    go_wp2_with fail
    go_ret
    exact ⟨by rw [HBAD.out (by unfold funBad headBad; simp only [e0, e1, HBL.out, Bool.true_or, Bool.or_true, Bool.false_or, Bool.or_false])]; rfl, HB.out⟩
   | false =>
   go_wp2_with fail
   have hfm : x.flags.length ≤ 9223372036854775807 := (eG3.out).2.1
   go_loopg [5] x.flags.length (fun gg s_ wr => ∃ (jj : Nat), jj ≤ x.flags.length ∧ x.flags.length - jj ≤ gg ∧ s_ = .int .i64 jj ∧ Aside0 (Below w.heap.size w wr) ∧ Aside0 (wr.heap[gx]? = some (.cells #[.slice (some ead) l.length c] 24 (0, 0))) ∧ Aside0 (wr.heap[ge]? = some (.cells #[.slice eA0 (x.params).length ec0, .slice eA1 (x.results).length ec1, .int .i64 x.cells, .slice eA3 (x.flags).length ec3, .slice eA4 (x.parts).length ec4, .slice eA5 (x.body).length ec5] 35 (0, 0))) ∧ Aside0 (∀ j, j < jj → flagBad x (x.flags.getD j (0 : Int)) = false))
   case atStart => exact ⟨0, Nat.zero_le _, by omega, rfl, HB, BX, BE1, ⟨fun j hj => absurd hj (Nat.not_lt_zero _)⟩⟩
   case round =>
    clear HB BX BE1
    obtain ⟨jj, hjj, hgj, rfl, HB, BX, BE1, HPF⟩ := hrel
    have ce_0 := (blk_cell BE1.out 0).trans rfl
    have ce_1 := (blk_cell BE1.out 1).trans rfl
    have ce_2 := (blk_cell BE1.out 2).trans rfl
    have ce_3 := (blk_cell BE1.out 3).trans rfl
    have ce_4 := (blk_cell BE1.out 4).trans rfl
    have ce_5 := (blk_cell BE1.out 5).trans rfl
    by_cases hltj : jj < x.flags.length
    ·have hltzj : (jj : Int) < (x.flags.length : Int) := by omega
     have hj0 : (0 : Int) ≤ (jj : Int) := by omega
     have HFT := Aside0.mk (any_getD_true x.flags (flagBad x) (0 : Int) jj hltj)
     obtain ⟨nad, ncs, rfl, _, nK, ncc⟩ := Kd.C_get eG3.out (0 : Int) (jj : Int) (by omega) (by omega)
     obtain rfl := nK
     have nx0 := ((Below.refl w.heap.size w).cell (World.block_lt_of_cell? w _ (ncc 0 _ rfl))).trans (ncc 0 _ rfl)
     simp only [show (Kd.int .i64).sz = 1 from rfl, Nat.mul_one, Nat.add_zero, Int.toNat_natCast] at nx0
     clear ncc
     try simp only [Int.toNat_natCast] at nx0
     generalize Yn0 : x.flags.getD jj (0 : Int) = n at nx0
     have Yn := Aside0.mk Yn0; clear Yn0
     rw [Yn.out] at HFT
     have ny := (HB.out.cell (World.block_lt_of_cell? w _ nx0)).trans nx0
     clear nx0
     go_wp2_with fail
     go_cut [57] from 42 to 56 (fun c wx => c = .bool (flagBad x n) ∧ ∃ nq, wx = World.drewN wr nq)
     case first =>
      by_cases g0 : n < 0
      ·have f0 : decide (n < 0) = true := decide_eq_true g0
       clear g0
       go_quiet (fail)
       go_wp2_with fail
       go_meet
       case rel => exact ⟨by unfold flagBad; simp only [f0, Bool.true_or, Bool.or_true, Bool.false_or, Bool.or_false], _, rfl⟩
      have f0 : decide (n < 0) = false := decide_eq_false g0
      clear g0
      by_cases g1 : n ≥ x.cells
      ·have f1 : decide (n ≥ x.cells) = true := decide_eq_true g1
       clear g1
       go_quiet (fail)
       go_wp2_with fail
       go_meet
       case rel => exact ⟨by unfold flagBad; simp only [f0, f1, Bool.true_or, Bool.or_true, Bool.false_or, Bool.or_false], _, rfl⟩
      have f1 : decide (n ≥ x.cells) = false := decide_eq_false g1
      clear g1
      go_quiet (fail)
      go_wp2_with fail
      go_meet
      case rel => exact ⟨by unfold flagBad; simp only [f0, f1, Bool.true_or, Bool.or_true, Bool.false_or, Bool.or_false], _, rfl⟩
     case rest =>
     obtain ⟨rfl, nq, rfl⟩ := hcut
     clear ce_0 ce_1 ce_2 ce_3 ce_4 ce_5
     clear ny
     have hd := pw_below_drewN (Below.refl wr.heap.size wr) nq
     replace HB := Aside0.mk (below_step HB.out hd)
     replace BX := Aside0.mk (below_blk BX.out hd)
     replace BE1 := Aside0.mk (below_blk BE1.out hd)
     clear hd
     generalize World.drewN wr nq = w8 at HB BX BE1 ⊢
     obtain ⟨pb, hpb⟩ : ∃ pb, flagBad x n = pb := ⟨_, rfl⟩
     rw [hpb]
     have HPB := Aside0.mk hpb
     clear hpb
     cases pb with
     | true =>
      go_wp2_with fail
      go_ret
      exact ⟨by rw [HBAD.out (by unfold funBad; rw [HFT.out HPB.out, Bool.or_true, Bool.true_or])]; rfl, HB.out⟩
     | false =>
     go_wp2_with fail
     go_roundg (x.flags.length - (jj + 1))
     case measure => omega
     case rel =>
      refine ⟨jj + 1, by omega, by omega, by go_num, HB, BX, BE1, ⟨fun j hj => ?_⟩⟩
      by_cases e : j = jj
      ·subst e; rw [Yn.out]; exact HPB.out
      ·exact HPF.out j (by omega)
    ·have hltzj : ¬ (jj : Int) < (x.flags.length : Int) := by omega
     obtain rfl : jj = x.flags.length := by omega
     have HFB := Aside0.mk (any_getD_false x.flags (flagBad x) (0 : Int) HPF.out)
     clear HPF hgj hjj hltj hfm
     go_wp2_with fail
     clear ce_0 ce_1 ce_2 ce_3 ce_4 ce_5
     have hpm : x.parts.length ≤ 9223372036854775807 := (eG4.out).2.1
     go_loopg [6] x.parts.length (fun gg s_ wr => ∃ (jj : Nat), jj ≤ x.parts.length ∧ x.parts.length - jj ≤ gg ∧ s_ = .int .i64 jj ∧ Aside0 (Below w.heap.size w wr) ∧ Aside0 (wr.heap[gx]? = some (.cells #[.slice (some ead) l.length c] 24 (0, 0))) ∧ Aside0 (wr.heap[ge]? = some (.cells #[.slice eA0 (x.params).length ec0, .slice eA1 (x.results).length ec1, .int .i64 x.cells, .slice eA3 (x.flags).length ec3, .slice eA4 (x.parts).length ec4, .slice eA5 (x.body).length ec5] 35 (0, 0))) ∧ Aside0 (∀ j, j < jj → partBad l kk x (x.parts.getD j z103) = false))
     case atStart => exact ⟨0, Nat.zero_le _, by omega, rfl, HB, BX, BE1, ⟨fun j hj => absurd hj (Nat.not_lt_zero _)⟩⟩
     case round =>
      clear HB BX BE1
      obtain ⟨jj, hjj, hgj, rfl, HB, BX, BE1, HPF⟩ := hrel
      have ce_0 := (blk_cell BE1.out 0).trans rfl
      have ce_1 := (blk_cell BE1.out 1).trans rfl
      have ce_2 := (blk_cell BE1.out 2).trans rfl
      have ce_3 := (blk_cell BE1.out 3).trans rfl
      have ce_4 := (blk_cell BE1.out 4).trans rfl
      have ce_5 := (blk_cell BE1.out 5).trans rfl
      by_cases hltj : jj < x.parts.length
      ·have hltzj : (jj : Int) < (x.parts.length : Int) := by omega
       have hj0 : (0 : Int) ≤ (jj : Int) := by omega
       have HPT := Aside0.mk (any_getD_true x.parts (partBad l kk x) z103 jj hltj)
       obtain ⟨pad, pcs, rfl, _, pK, pcc⟩ := Kd.C_get eG4.out z103 (jj : Int) (by omega) (by omega)
       have pK' := pK
       obtain rfl := k103_open pK'
       have px0 := (HB.out.cell (World.block_lt_of_cell? w _ (pcc 0 _ rfl))).trans (pcc 0 _ rfl)
       have px1 := (HB.out.cell (World.block_lt_of_cell? w _ (pcc 1 _ rfl))).trans (pcc 1 _ rfl)
       rw [show (kPt).sz = 2 from rfl, Nat.add_zero, Int.toNat_natCast] at px0
       rw [show (kPt).sz = 2 from rfl, Int.toNat_natCast, add_field _ _ 1 (by omega)] at px1
       clear pcc
       try simp only [Int.toNat_natCast] at px0 px1 pK
       generalize Yq0 : x.parts.getD jj z103 = q at px0 px1 pK
       have Yq := Aside0.mk Yq0; clear Yq0
       rw [Yq.out] at HPT
       clear pK
       clear ce_0 ce_1 ce_2 ce_3 ce_4 ce_5
       have ce_4 := (blk_cell BE1.out 4).trans rfl
       go_upto_region 16 with ((with_reducible refine gate_store (t := 103) (p := 7) rfl ?_); refine store_whole rfl rfl 103 _ _ rfl wr.heap.size _ 103 rfl (blk_new _ _) _ rfl rfl rfl (by simp [Value.oneCell']) ?_; intro w2 hb2 hg2; have H0_ := HB.out.size; replace BX := Aside0.mk (blk_as BX.out hg2); replace BE1 := Aside0.mk (blk_as BE1.out hg2); replace HB := Aside0.mk (below_as HB.out hg2); obtain ⟨gp, hq_⟩ : ∃ g_, g_ = wr.heap.size := ⟨_, rfl⟩; rw [← hq_] at hb2; rw [← hq_]; have BP := Aside0.mk hb2; have LBP := Aside0.mk (show w.heap.size ≤ gp by rw [hq_]; exact H0_); have NBP := Aside0.mk (show gp = wr.heap.size from hq_); clear hb2 hg2 hq_; clear ce_4; have cp_0 := (blk_cell BP.out 0).trans rfl; have cp_1 := (blk_cell BP.out 1).trans rfl; have ce_0 := (blk_cell BE1.out 0).trans rfl; have ce_1 := (blk_cell BE1.out 1).trans rfl; have ce_2 := (blk_cell BE1.out 2).trans rfl; have ce_3 := (blk_cell BE1.out 3).trans rfl; have ce_4 := (blk_cell BE1.out 4).trans rfl; have ce_5 := (blk_cell BE1.out 5).trans rfl; have x0 := (blk_cell BX.out 0).trans rfl; clear H0_)
       go_cut [105] from 70 to 104 (fun c wx => c = .bool (partBad l kk x q) ∧ ∃ nq, wx = World.drewN w2 nq)
       case first =>
        by_cases g0 : q.f1 < 0
        ·have f0 : decide (q.f1 < 0) = true := decide_eq_true g0
         clear g0
         go_quiet (fail)
         go_wp2_with fail
         go_meet
         case rel => exact ⟨by unfold partBad; simp only [f0, Bool.true_or, Bool.or_true, Bool.false_or, Bool.or_false], _, rfl⟩
        have f0 : decide (q.f1 < 0) = false := decide_eq_false g0
        by_cases g1 : q.f1 ≥ (kk : Int)
        ·have f1 : decide (q.f1 ≥ (kk : Int)) = true := decide_eq_true g1
         clear g1
         go_quiet (fail)
         go_wp2_with fail
         go_meet
         case rel => exact ⟨by unfold partBad; simp only [f0, f1, Bool.true_or, Bool.or_true, Bool.false_or, Bool.or_false], _, rfl⟩
        have f1 : decide (q.f1 ≥ (kk : Int)) = false := decide_eq_false g1
        by_cases g2 : q.f0 < 0
        ·have f2 : decide (q.f0 < 0) = true := decide_eq_true g2
         clear g2
         go_quiet (fail)
         go_wp2_with fail
         go_meet
         case rel => exact ⟨by unfold partBad; simp only [f0, f1, f2, Bool.true_or, Bool.or_true, Bool.false_or, Bool.or_false], _, rfl⟩
        have f2 : decide (q.f0 < 0) = false := decide_eq_false g2
        by_cases g3 : q.f0 > x.cells
        ·have f3 : decide (q.f0 > x.cells) = true := decide_eq_true g3
         clear g3
         go_quiet (fail)
         go_wp2_with fail
         go_meet
         case rel => exact ⟨by unfold partBad; simp only [f0, f1, f2, f3, Bool.true_or, Bool.or_true, Bool.false_or, Bool.or_false], _, rfl⟩
        have f3 : decide (q.f0 > x.cells) = false := decide_eq_false g3
        have hi0 : 0 ≤ q.f1 := by omega
        have hi1 : q.f1 < (l.length : Int) := by omega
        have hw2 : wrap64 (x.cells - q.f0) = x.cells - q.f0 := by have := D0.out; have := D1.out; unfold wrap64; omega
        clear g0 g1 g2 g3
        obtain ⟨had, hcs, heq_, _, hK, hcc⟩ := Kd.C_get HC.out zFF q.f1 (by omega) (by omega)
        injection heq_ with heq_
        subst heq_
        have hK' := hK
        obtain ⟨hA0, hc0, hA1, hc1, hA3, hc3, hA4, hc4, hA5, hc5, rfl, hl0, hg0, hl1, hg1, hl3, hg3, hl4, hg4, hl5, hg5⟩ := kFF_open6 hK'
        have hx0 := (HB.out.cell (World.block_lt_of_cell? w _ (hcc 0 _ rfl))).trans (hcc 0 _ rfl)
        have hx1 := (HB.out.cell (World.block_lt_of_cell? w _ (hcc 1 _ rfl))).trans (hcc 1 _ rfl)
        have hx2 := (HB.out.cell (World.block_lt_of_cell? w _ (hcc 2 _ rfl))).trans (hcc 2 _ rfl)
        have hx3 := (HB.out.cell (World.block_lt_of_cell? w _ (hcc 3 _ rfl))).trans (hcc 3 _ rfl)
        have hx4 := (HB.out.cell (World.block_lt_of_cell? w _ (hcc 4 _ rfl))).trans (hcc 4 _ rfl)
        have hx5 := (HB.out.cell (World.block_lt_of_cell? w _ (hcc 5 _ rfl))).trans (hcc 5 _ rfl)
        rw [show (kFF).sz = 6 from rfl, Nat.add_zero] at hx0
        rw [show (kFF).sz = 6 from rfl, add_field _ _ 1 (by omega)] at hx1
        rw [show (kFF).sz = 6 from rfl, add_field _ _ 2 (by omega)] at hx2
        rw [show (kFF).sz = 6 from rfl, add_field _ _ 3 (by omega)] at hx3
        rw [show (kFF).sz = 6 from rfl, add_field _ _ 4 (by omega)] at hx4
        rw [show (kFF).sz = 6 from rfl, add_field _ _ 5 (by omega)] at hx5
        clear hcc
        generalize Yy0 : l.getD q.f1.toNat zFF = y at hx0 hx1 hx2 hx3 hx4 hx5 hK hl0 hg0 hl1 hg1 hl3 hg3 hl4 hg4 hl5 hg5
        have Yy := Aside0.mk Yy0; clear Yy0
        have HY := Aside0.mk (show cellsAt l q.f1 = y.cells by rw [cellsAt_getD, Yy.out])
        clear hK
        by_cases g4 : y.cells > x.cells - q.f0
        ·have f4 : decide (y.cells > x.cells - q.f0) = true := decide_eq_true g4
         clear g4
         go_quiet (fail)
         go_wp2_with fail
         go_meet
         case rel => exact ⟨by unfold partBad; simp only [f0, f1, f2, f3, HY.out, f4, Bool.true_or, Bool.or_true, Bool.false_or, Bool.or_false], _, rfl⟩
        have f4 : decide (y.cells > x.cells - q.f0) = false := decide_eq_false g4
        clear g4
        go_quiet (fail)
        go_wp2_with fail
        go_meet
        case rel => exact ⟨by unfold partBad; simp only [f0, f1, f2, f3, HY.out, f4, Bool.true_or, Bool.or_true, Bool.false_or, Bool.or_false], _, rfl⟩
       case rest =>
       obtain ⟨rfl, nq, rfl⟩ := hcut
       clear ce_0 ce_1 ce_2 ce_3 ce_4 ce_5
       clear cp_0 cp_1 x0 BP
       have hd := pw_below_drewN (Below.refl w2.heap.size w2) nq
       replace HB := Aside0.mk (below_step HB.out hd)
       replace BX := Aside0.mk (below_blk BX.out hd)
       replace BE1 := Aside0.mk (below_blk BE1.out hd)
       clear hd
       generalize World.drewN w2 nq = w8 at HB BX BE1 ⊢
       obtain ⟨pb, hpb⟩ : ∃ pb, partBad l kk x q = pb := ⟨_, rfl⟩
       rw [hpb]
       have HPB := Aside0.mk hpb
       clear hpb
       cases pb with
       | true =>
        go_wp2_with fail
        go_ret
        exact ⟨by rw [HBAD.out (by unfold funBad; rw [HPT.out HPB.out, Bool.or_true])]; rfl, HB.out⟩
       | false =>
       go_wp2_with fail
       go_roundg (x.parts.length - (jj + 1))
       case measure => omega
       case rel =>
        refine ⟨jj + 1, by omega, by omega, by go_num, HB, BX, BE1, ⟨fun j hj => ?_⟩⟩
        by_cases e : j = jj
        ·subst e; rw [Yq.out]; exact HPB.out
        ·exact HPF.out j (by omega)
      ·have hltzj : ¬ (jj : Int) < (x.parts.length : Int) := by omega
       obtain rfl : jj = x.parts.length := by omega
       have HPA := Aside0.mk (any_getD_false x.parts (partBad l kk x) z103 HPF.out)
       have HFB2 := Aside0.mk (show funBad l kk x = false by unfold funBad headBad; rw [e0, e1, HBL.out, HFB.out, HPA.out]; rfl)
       clear HPF hgj hjj hltj hpm HPA HFB e0 e1
       go_wp2_with fail
       go_roundg (l.length - (kk + 1))
       case measure => omega
       case rel => exact ⟨kk + 1, by omega, by omega, by go_num, HB, BX, ⟨by rw [← HA.out, HDR.out, anyBad, HFB2.out, Bool.false_or]⟩⟩
  ·have hltz : ¬ (kk : Int) < (l.length : Int) := by omega
   obtain rfl : kk = l.length := by omega
   have hba : anyBad l 0 l = false := by rw [← HA.out, List.drop_length]; rfl
   have HE := Aside0.mk (show R = decide (0 < l.length) by
    rw [← HR.out]
    unfold flatOk
    rw [hba]; rfl)
   clear hba hg hkk hlt
   go_wp2
   go_ret
   exact ⟨by rw [HE.out]; rfl, HB.out⟩
end Go.Proofs.YticndoihkfbpoaaGreatDoor
