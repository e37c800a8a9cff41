/- The reference's frame: do: statements, one by one. -/
import Derived.Test.YticndoihkfbpoaaGreatDoorYq
namespace Go.Proofs.YticndoihkfbpoaaGreatDoor
open Go Go.RowKit Go.Lib Go.Proofs.YticndoihkfbpoaaGreatDoorW.PrintWords Go.Proofs.YticndoihkfbpoaaGreatDoor.PScope
set_option maxRecDepth 100000
set_option linter.unusedSimpArgs false
set_option linter.unusedVariables false
attribute [local irreducible] wpStill
theorem clearM_in : ∀ (n b : Nat) {m : List Cl}, MemIn m → MemIn (clearM m b n)
 | 0, _, m, h => by rw [clearM]; exact h
 | n + 1, b, m, h => by rw [clearM]; exact clearM_in n (b + 1) (h.set b InR.zero)
theorem flagsM_in (base : Int) : ∀ (l : List Int) {m : List Cl}, MemIn m → MemIn (flagsM base l m)
 | [], m, h => by rw [flagsM]; exact h
 | n :: r, m, h => by rw [flagsM]; exact flagsM_in base r (h.set _ ⟨by decide, by decide⟩)
theorem partsM_in {F : Int → Int → List Cl → List Cl} (hF : ∀ k b {m : List Cl}, MemIn m → MemIn (F k b m)) (base : Int) : ∀ (l : List S103) {m : List Cl}, MemIn m → MemIn (partsM F base l m)
 | [], m, h => by rw [partsM]; exact h
 | p :: r, m, h => by rw [partsM]; exact partsM_in hF base r (hF _ _ h)
theorem anewF_in (l : List FF) : ∀ (d : Nat) (k base : Int) {m : List Cl}, MemIn m → MemIn (anewF l d k base m)
 | 0, _, _, m, h => by rw [anewF]; exact h
 | d + 1, k, base, m, h => by rw [anewF]; exact partsM_in (anewF_in l d) base _ (flagsM_in base _ (clearM_in _ _ h))
set_option maxHeartbeats 8000000 in
theorem rdo_calls (w0 : World) (g : Nat) (ma : Addr) (A : Option Addr) (c : Nat) (l : List FF) (N : Nat) (tr : Bool) (gf : Nat) (base : Int) (bv : Nat) (I : Inst) (d : Nat) (hI : RStepSays w0 g ma A c l N tr gf base bv I d) (hok : flatOk l = true) (hmx : l.length ≤ 9223372036854775807) (hC : kFF.C w0 A l.length l) (hd : (d : Int) ≤ (l.length : Int)) : ∀ (xs : List FS), Small xs → RDoSays w0 g ma A c l N tr gf base bv I d xs := by
 intro xs hl
 induction hl with
 | mk xs h1 h2 h3 ih =>
  intro f m cn q w B cB hb hin hF hX hq
  have hmax : xs.length ≤ 9223372036854775807 := hX.2.1
  have HI := Aside0.mk hI; have IH := Aside0.mk ih; have HOK := Aside0.mk hok; have HMX := Aside0.mk hmx; have HC := Aside0.mk hC; have HD := Aside0.mk hd; have HBD := Aside0.mk hb; have HX := Aside0.mk hX; have HF := Aside0.mk hF; have HSU := Aside0.mk h3; have HIN := Aside0.mk hin; have HQQ := Aside0.mk hq
  have HT := Aside0.mk (DV_below (g := g) (ma := ma) (gf := gf) (bv := bv) (Below.refl w.heap.size w))
  have NGF := Aside0.mk hF.lts; have NBV := Aside0.mk hF.le
  obtain ⟨Q, hQ⟩ : ∃ Q, q + nmL xs = Q := ⟨_, rfl⟩
  have HQ0 := Aside0.mk (show q + nmL xs ≤ Q by omega)
  rw [hQ] at HQQ ⊢
  obtain ⟨R, hR⟩ : ∃ R, doL I l N base xs f m cn = R := ⟨_, rfl⟩
  rw [hR]
  have HS := Aside0.mk hR
  clear h1 h2 h3 ih hI hok hmx hC hd hb hX hF hR hin hq hQ
  go_enter Tryz.func74, Tryz.ntmps74
  go_wp2_with fail
  go_loopg [5] xs.length (fun gg s5 wr => ∃ (kk : Nat) (f1 : Vars) (m1 : List Cl) (cn1 : Int) (q1 : Nat), kk ≤ xs.length ∧ xs.length - kk ≤ gg ∧ s5 = .int .i64 kk ∧ Aside0 (FAtR w0 wr g ma A c l N m1 tr cn1 gf base bv q1 f1 false) ∧ Aside0 (Turned (DV g ma gf bv w) w wr) ∧ Aside0 (q1 + nmL (xs.drop kk) ≤ Q) ∧ Aside0 (doL I l N base (xs.drop kk) f1 m1 cn1 = R))
  case atStart => exact ⟨0, f, m, cn, q, Nat.zero_le _, by omega, rfl, HF, HT, HQ0, HS⟩
  case round =>
   clear HF HT HS HQ0
   obtain ⟨kk, f1, m1, cn1, q1, hkk, hgk, rfl, HF, HT, HQ1, HS⟩ := hrel
   by_cases hlt : kk < xs.length
   ·have hltz : (kk : Int) < (xs.length : Int) := by omega
    obtain ⟨fv, fvs, hfrm, _, _, _⟩ := HF.out.frm
    have x0 := (blk_cell hfrm 0).trans rfl
    clear hfrm
    have y3 := (blk_cell HF.out.run.blk 3).trans rfl
    have y3f := blk_frozen HF.out.run.blk 3
    go_upto_region 5 with fail
    have hcn := HF.out.count (wrap64 (cn1 + 1))
    replace HF := Aside0.mk hcn.1
    replace HT := Aside0.mk (DV.trans HT.out (DV_run hcn.2))
    clear hcn x0 y3 y3f
    generalize wr.setCell ⟨g, 3, none⟩ (.int .i64 (wrap64 (cn1 + 1))) = w3 at HF HT ⊢
    have HM := Aside0.mk (getD_mem hlt zFS)
    have HS1 := Aside0.mk (show thenL I l N base (xs.drop (kk + 1)) (doS I l N base (xs.getD kk zFS) f1 m1 (wrap64 (cn1 + 1))) = R by rw [← HS.out, drop_getD xs kk hlt zFS, doL_cons])
    have HQ2 := Aside0.mk (show q1 + (1 + (xs.getD kk zFS).names.length + nmA (xs.getD kk zFS).arms) + nmL (xs.drop (kk + 1)) ≤ Q by have := HQ1.out; rw [nmL_drop hlt, nmS_eq] at this; omega)
    clear HS HQ1
    obtain ⟨cn2, hcn2⟩ : ∃ cn2, wrap64 (cn1 + 1) = cn2 := ⟨_, rfl⟩
    rw [hcn2] at HF HS1
    clear hcn2
    obtain ⟨sad, scs, hse, _, sK, scc⟩ := Kd.C_get HX.out zFS (kk : Int) (by omega) (by omega)
    subst hse
    have sK' := sK
    obtain ⟨sA4, sc4, sA8, sc8, sA9, sc9, sA6, sc6, sA7, sc7, rfl, sl4, sg4, sl8, sg8, sl9, sg9, sl6, sg6, sl7, sg7⟩ := kFS_openV sK'
    have sx0 := (HF.out.run.below.cell (World.block_lt_of_cell? w0 _ (scc 0 _ rfl))).trans (scc 0 _ rfl)
    have sx1 := (HF.out.run.below.cell (World.block_lt_of_cell? w0 _ (scc 1 _ rfl))).trans (scc 1 _ rfl)
    have sx2 := (HF.out.run.below.cell (World.block_lt_of_cell? w0 _ (scc 2 _ rfl))).trans (scc 2 _ rfl)
    have sx3 := (HF.out.run.below.cell (World.block_lt_of_cell? w0 _ (scc 3 _ rfl))).trans (scc 3 _ rfl)
    have sx4 := (HF.out.run.below.cell (World.block_lt_of_cell? w0 _ (scc 4 _ rfl))).trans (scc 4 _ rfl)
    have sx5 := (HF.out.run.below.cell (World.block_lt_of_cell? w0 _ (scc 5 _ rfl))).trans (scc 5 _ rfl)
    have sx6 := (HF.out.run.below.cell (World.block_lt_of_cell? w0 _ (scc 6 _ rfl))).trans (scc 6 _ rfl)
    have sx7 := (HF.out.run.below.cell (World.block_lt_of_cell? w0 _ (scc 7 _ rfl))).trans (scc 7 _ rfl)
    have sx8 := (HF.out.run.below.cell (World.block_lt_of_cell? w0 _ (scc 8 _ rfl))).trans (scc 8 _ rfl)
    have sx9 := (HF.out.run.below.cell (World.block_lt_of_cell? w0 _ (scc 9 _ rfl))).trans (scc 9 _ rfl)
    have sx10 := (HF.out.run.below.cell (World.block_lt_of_cell? w0 _ (scc 10 _ rfl))).trans (scc 10 _ rfl)
    have sx11 := (HF.out.run.below.cell (World.block_lt_of_cell? w0 _ (scc 11 _ rfl))).trans (scc 11 _ rfl)
    rw [show (kFS).sz = 12 from rfl, Nat.add_zero, Int.toNat_natCast] at sx0
    rw [show (kFS).sz = 12 from rfl, Int.toNat_natCast, add_field _ _ 1 (by omega)] at sx1
    rw [show (kFS).sz = 12 from rfl, Int.toNat_natCast, add_field _ _ 2 (by omega)] at sx2
    rw [show (kFS).sz = 12 from rfl, Int.toNat_natCast, add_field _ _ 3 (by omega)] at sx3
    rw [show (kFS).sz = 12 from rfl, Int.toNat_natCast, add_field _ _ 4 (by omega)] at sx4
    rw [show (kFS).sz = 12 from rfl, Int.toNat_natCast, add_field _ _ 5 (by omega)] at sx5
    rw [show (kFS).sz = 12 from rfl, Int.toNat_natCast, add_field _ _ 6 (by omega)] at sx6
    rw [show (kFS).sz = 12 from rfl, Int.toNat_natCast, add_field _ _ 7 (by omega)] at sx7
    rw [show (kFS).sz = 12 from rfl, Int.toNat_natCast, add_field _ _ 8 (by omega)] at sx8
    rw [show (kFS).sz = 12 from rfl, Int.toNat_natCast, add_field _ _ 9 (by omega)] at sx9
    rw [show (kFS).sz = 12 from rfl, Int.toNat_natCast, add_field _ _ 10 (by omega)] at sx10
    rw [show (kFS).sz = 12 from rfl, Int.toNat_natCast, add_field _ _ 11 (by omega)] at sx11
    clear scc
    try simp only [Int.toNat_natCast] at sx0 sx1 sx2 sx3 sx4 sx5 sx6 sx7 sx8 sx9 sx10 sx11 sK sl4 sg4 sl8 sg8 sl9 sg9 sl6 sg6 sl7 sg7
    generalize Ys0 : xs.getD kk zFS = s at sx0 sx1 sx2 sx3 sx4 sx5 sx6 sx7 sx8 sx9 sx10 sx11 sK sl4 sg4 sl8 sg8 sl9 sg9 sl6 sg6 sl7 sg7
    have Ys := Aside0.mk Ys0; clear Ys0
    rw [Ys.out] at HS1 HM HQ2
    have sL4 := Aside0.mk sl4; have sG4 := Aside0.mk sg4; clear sl4 sg4
    have sL8 := Aside0.mk sl8; have sG8 := Aside0.mk sg8; clear sl8 sg8
    have sL9 := Aside0.mk sl9; have sG9 := Aside0.mk sg9; clear sl9 sg9
    have sL6 := Aside0.mk sl6; have sG6 := Aside0.mk sg6; clear sl6 sg6
    have sL7 := Aside0.mk sl7; have sG7 := Aside0.mk sg7; clear sl7 sg7
    have HBS := Aside0.mk (badL_mem HBD.out HM.out)
    have HIS := Aside0.mk (IH.out s HM.out)
    have HEX := Aside0.mk (HIN.out.e s HM.out)
    have HEA := Aside0.mk (HIN.out.args s HM.out)
    have HER := Aside0.mk (HIN.out.arms s HM.out)
    have SK := Aside0.mk sK
    clear sK
    go_upto_region 6 with ((with_reducible refine gate_store (t := 41) (p := 6) rfl ?_); refine store_whole rfl rfl 41 _ _ rfl w3.heap.size _ 41 rfl (blk_new _ _) _ rfl rfl rfl (by simp [Value.oneCell']) ?_; intro w2 hb2 hg2; have hba := below_as (Below.refl w3.heap.size w3) hg2; have NBE := Aside0.mk (show w3.heap.size ≠ g ∧ w3.heap.size ≠ ma.block ∧ w3.heap.size ≠ gf from by have := HF.out.lts; omega); replace HF := Aside0.mk (HF.out.below' hba); replace HT := Aside0.mk (HT.out.step hba); obtain ⟨ge, hq_⟩ : ∃ g_, g_ = w3.heap.size := ⟨_, rfl⟩; rw [← hq_] at hb2 NBE; rw [← hq_]; have BE := Aside0.mk hb2; clear hb2 hg2 hq_ hba)
    clear sx0 sx1 sx2 sx3 sx4 sx5 sx6 sx7 sx8 sx9 sx10 sx11
    have ce_0 := (blk_cell BE.out 0).trans rfl
    skip
    by_cases e1 : s.op = 1
    ·have o1 : (s.op == (1 : Int)) = true := by rw [e1]; rfl
     have E1 := Aside0.mk e1; clear e1
     have HKE := Aside0.mk (k38_mk w0 s.e sL8.out sG8.out sL9.out sG9.out)
     have ce_5 := (blk_cell BE.out 5).trans rfl
     have ce_6 := (blk_cell BE.out 6).trans rfl
     have ce_7 := (blk_cell BE.out 7).trans rfl
     have ce_8 := (blk_cell BE.out 8).trans rfl
     have ce_9 := (blk_cell BE.out 9).trans rfl
     rcases hv : valE m1 base f1 s.e with _ | cv
     ·have HR := Aside0.mk (show R = (m1, cn2, none) by rw [← HS1.out, doS_eq, if_pos E1.out, hv]; rfl)
      have HV := Aside0.mk (rv_trap HEX.out HF.out HKE.out hv)
      clear HS1 hv HKE
      go_wp2_with fail
      refine HV.out.mono ?_
      rintro e w5 ⟨rfl, hF5, ht5⟩
      replace HT := Aside0.mk (DV.trans HT.out (DV_mark ht5))
      replace BE := Aside0.mk (ht5.blk BE.out NBE.out.2.2)
      replace HF := Aside0.mk hF5
      clear hF5 ht5 HV ce_0 ce_5 ce_6 ce_7 ce_8 ce_9
      go_upto_region 10 with ((with_reducible refine gate_store (t := 93) (p := 8) rfl ?_); refine store_whole rfl rfl 93 _ _ rfl w5.heap.size _ 93 rfl (blk_new _ _) _ rfl rfl rfl (by simp [Value.oneCell']) ?_; intro w2 hb2 hg2; have hba := below_as (Below.refl w5.heap.size w5) hg2; replace HF := Aside0.mk (HF.out.below' hba); replace HT := Aside0.mk (HT.out.step hba); replace BE := Aside0.mk (below_blk BE.out hba); obtain ⟨gc, hq_⟩ : ∃ g_, g_ = w5.heap.size := ⟨_, rfl⟩; rw [← hq_] at hb2; rw [← hq_]; have BC := Aside0.mk hb2; clear hb2 hg2 hq_ hba; have cc_0 := (blk_cell BC.out 0).trans rfl; have cc_1 := (blk_cell BC.out 1).trans rfl)
      have ce_1 := (blk_cell BE.out 1).trans rfl
      have hset := set_calls HF.out s.name (0, false) InR.zero (by have := HQ2.out; have := HQQ.out; omega)
      unfold encR at hset
      simp only [] at hset
      go_wp2_with fail
      refine hset.mono ?_
      rintro e w7 ⟨rfl, hF7, ht7⟩
      replace HT := Aside0.mk (DV.trans HT.out (DV_set ht7))
      replace HF := Aside0.mk hF7
      clear hF7 ht7 hset ce_1 cc_0 cc_1
      obtain ⟨fv3, fvs3, hfrm3, _, _, _⟩ := HF.out.frm
      have x3 := (blk_cell hfrm3 3).trans rfl
      clear hfrm3
      go_wp2_with fail
      go_ret
      exact rdo_no HR.out HF.out.run HF.out.inm HT.out
     ·obtain ⟨v, on⟩ := cv
      have HVI := Aside0.mk (valE_in HF.out.inm base HF.out.inv HEX.out hv)
      have HR := Aside0.mk (show doL I l N base (xs.drop (kk + 1)) (mupd f1 s.name (v, on)) m1 cn2 = R by rw [← HS1.out, doS_eq, if_pos E1.out, hv]; rfl)
      have HV := Aside0.mk (rv_ok HEX.out HF.out HKE.out hv)
      clear HS1 hv HKE
      go_wp2_with fail
      refine HV.out.mono ?_
      rintro e w5 ⟨rfl, hb5⟩
      replace HT := Aside0.mk (HT.out.step hb5)
      replace BE := Aside0.mk (below_blk BE.out hb5)
      replace HF := Aside0.mk (HF.out.below' hb5)
      clear hb5 HV ce_0 ce_5 ce_6 ce_7 ce_8 ce_9
      go_upto_region 10 with ((with_reducible refine gate_store (t := 93) (p := 8) rfl ?_); refine store_whole rfl rfl 93 _ _ rfl w5.heap.size _ 93 rfl (blk_new _ _) _ rfl rfl rfl (by simp [Value.oneCell']) ?_; intro w2 hb2 hg2; have hba := below_as (Below.refl w5.heap.size w5) hg2; replace HF := Aside0.mk (HF.out.below' hba); replace HT := Aside0.mk (HT.out.step hba); replace BE := Aside0.mk (below_blk BE.out hba); obtain ⟨gc, hq_⟩ : ∃ g_, g_ = w5.heap.size := ⟨_, rfl⟩; rw [← hq_] at hb2; rw [← hq_]; have BC := Aside0.mk hb2; clear hb2 hg2 hq_ hba; have cc_0 := (blk_cell BC.out 0).trans rfl; have cc_1 := (blk_cell BC.out 1).trans rfl)
      have ce_1 := (blk_cell BE.out 1).trans rfl
      have hset := set_calls HF.out s.name (v, on) HVI.out (by have := HQ2.out; have := HQQ.out; omega)
      unfold encR at hset
      simp only [] at hset
      go_wp2_with fail
      refine hset.mono ?_
      rintro e w7 ⟨rfl, hF7, ht7⟩
      replace HT := Aside0.mk (DV.trans HT.out (DV_set ht7))
      replace HF := Aside0.mk hF7
      have HQ3 := Aside0.mk (show q1 + 1 + nmL (xs.drop (kk + 1)) ≤ Q by have := HQ2.out; omega)
      clear hF7 ht7 hset ce_1 cc_0 cc_1
      obtain ⟨fv3, fvs3, hfrm3, _, _, _⟩ := HF.out.frm
      have x3 := (blk_cell hfrm3 3).trans rfl
      clear hfrm3
      go_wp2_with fail
      go_roundg (xs.length - (kk + 1))
      case measure => omega
      case rel => exact ⟨kk + 1, mupd f1 s.name (v, on), m1, cn2, q1 + 1, by omega, by omega, by go_num, HF, HT, HQ3, HR⟩
    ·have n1 := e1; clear e1
     by_cases e2 : s.op = 2
     ·have o1 : (s.op == (1 : Int)) = false := beq_eq_false_iff_ne.2 n1
      have o2 : (s.op == (2 : Int)) = true := by rw [e2]; rfl
      have E2 := Aside0.mk e2; clear e2
      have HKE := Aside0.mk (k38_mk w0 s.e sL8.out sG8.out sL9.out sG9.out)
      have ce_5 := (blk_cell BE.out 5).trans rfl
      have ce_6 := (blk_cell BE.out 6).trans rfl
      have ce_7 := (blk_cell BE.out 7).trans rfl
      have ce_8 := (blk_cell BE.out 8).trans rfl
      have ce_9 := (blk_cell BE.out 9).trans rfl
      rcases hv : valE m1 base f1 s.e with _ | ⟨v, on⟩
      ·have HR := Aside0.mk (show R = (m1, cn2, none) by rw [← HS1.out, doS_eq, if_neg n1, if_pos E2.out, hv]; rfl)
       have HV := Aside0.mk (rv_trap HEX.out HF.out HKE.out hv)
       clear HS1 hv HKE
       go_wp2_with fail
       refine HV.out.mono ?_
       rintro e w5 ⟨rfl, hF5, ht5⟩
       replace HT := Aside0.mk (DV.trans HT.out (DV_mark ht5))
       replace BE := Aside0.mk (ht5.blk BE.out NBE.out.2.2)
       replace HF := Aside0.mk hF5
       clear hF5 ht5 HV ce_0 ce_5 ce_6 ce_7 ce_8 ce_9
       go_upto_region 14 with ((with_reducible refine gate_store (t := 93) (p := 9) rfl ?_); refine store_whole rfl rfl 93 _ _ rfl w5.heap.size _ 93 rfl (blk_new _ _) _ rfl rfl rfl (by simp [Value.oneCell']) ?_; intro w2 hb2 hg2; have hba := below_as (Below.refl w5.heap.size w5) hg2; replace HF := Aside0.mk (HF.out.below' hba); replace HT := Aside0.mk (HT.out.step hba); replace BE := Aside0.mk (below_blk BE.out hba); obtain ⟨gc, hq_⟩ : ∃ g_, g_ = w5.heap.size := ⟨_, rfl⟩; rw [← hq_] at hb2; rw [← hq_]; have BC := Aside0.mk hb2; clear hb2 hg2 hq_ hba; have cc_0 := (blk_cell BC.out 0).trans rfl; have cc_1 := (blk_cell BC.out 1).trans rfl)
       have hpl := place_calls HF.out s.pos
       have ce_2 := (blk_cell BE.out 2).trans rfl
       go_wp2_with fail
       refine hpl.mono ?_
       rintro e w7 ⟨rfl, hb⟩
       replace HT := Aside0.mk (HT.out.step hb)
       replace HF := Aside0.mk (HF.out.below' hb)
       replace BC := Aside0.mk (below_blk BC.out hb)
       clear hb hpl ce_2 cc_0 cc_1
       have cc_0 := (blk_cell BC.out 0).trans rfl
       have cc_1 := (blk_cell BC.out 1).trans rfl
       obtain ⟨fv3, fvs3, hfrm3, _, _, _⟩ := HF.out.frm
       have x3 := (blk_cell hfrm3 3).trans rfl
       clear hfrm3
       go_wp2_with fail
       go_ret
       exact rdo_no HR.out HF.out.run HF.out.inm HT.out
      ·have HS2 := Aside0.mk (show thenL I l N base (xs.drop (kk + 1)) (keepX N base s.pos (some (v, on)) f1 m1 cn2) = R by rw [← HS1.out, doS_eq, if_neg n1, if_pos E2.out, hv])
       cases on with
       | false =>
        have HR := Aside0.mk (show R = (m1, cn2, none) from HS2.out.symm.trans (by unfold keepX thenL; rfl))
        have HV := Aside0.mk (rv_ok HEX.out HF.out HKE.out hv)
        clear HS1 hv HKE
        go_wp2_with fail
        refine HV.out.mono ?_
        rintro e w5 ⟨rfl, hb5⟩
        replace HT := Aside0.mk (HT.out.step hb5)
        replace BE := Aside0.mk (below_blk BE.out hb5)
        replace HF := Aside0.mk (HF.out.below' hb5)
        clear hb5 HV ce_0 ce_5 ce_6 ce_7 ce_8 ce_9
        go_upto_region 14 with ((with_reducible refine gate_store (t := 93) (p := 9) rfl ?_); refine store_whole rfl rfl 93 _ _ rfl w5.heap.size _ 93 rfl (blk_new _ _) _ rfl rfl rfl (by simp [Value.oneCell']) ?_; intro w2 hb2 hg2; have hba := below_as (Below.refl w5.heap.size w5) hg2; replace HF := Aside0.mk (HF.out.below' hba); replace HT := Aside0.mk (HT.out.step hba); replace BE := Aside0.mk (below_blk BE.out hba); obtain ⟨gc, hq_⟩ : ∃ g_, g_ = w5.heap.size := ⟨_, rfl⟩; rw [← hq_] at hb2; rw [← hq_]; have BC := Aside0.mk hb2; clear hb2 hg2 hq_ hba; have cc_0 := (blk_cell BC.out 0).trans rfl; have cc_1 := (blk_cell BC.out 1).trans rfl)
        have hpl := place_calls HF.out s.pos
        have ce_2 := (blk_cell BE.out 2).trans rfl
        go_wp2_with fail
        refine hpl.mono ?_
        rintro e w7 ⟨rfl, hb⟩
        replace HT := Aside0.mk (HT.out.step hb)
        replace HF := Aside0.mk (HF.out.below' hb)
        replace BC := Aside0.mk (below_blk BC.out hb)
        clear hb hpl ce_2 cc_0 cc_1
        have cc_0 := (blk_cell BC.out 0).trans rfl
        have cc_1 := (blk_cell BC.out 1).trans rfl
        obtain ⟨fv3, fvs3, hfrm3, _, _, _⟩ := HF.out.frm
        have x3 := (blk_cell hfrm3 3).trans rfl
        clear hfrm3
        go_wp2_with fail
        go_ret
        exact rdo_no HR.out HF.out.run HF.out.inm HT.out
       | true =>
        by_cases hc : 0 ≤ s.pos ∧ s.pos < (N : Int) - base
        ·have HVI := Aside0.mk (valE_in HF.out.inm base HF.out.inv HEX.out hv)
         have HR := Aside0.mk (show doL I l N base (xs.drop (kk + 1)) f1 (m1.set (base + s.pos).toNat (v, true)) cn2 = R by rw [← HS2.out, keepX_yes hc]; rfl)
         have hb0 := HF.out.b0
         have hln := HF.out.run.len
         obtain ⟨p, hpz⟩ : ∃ p : Nat, base + s.pos = (p : Int) := ⟨(base + s.pos).toNat, by omega⟩
         have hpp : placeV N base s.pos = (p : Int) := by rw [← hpz]; exact if_neg (by omega)
         rw [hpz, Int.toNat_natCast] at HR
         have HP := Aside0.mk (show p < m1.length from by omega)
         have hpN : (p : Int) < (N : Int) := by omega
         have hge : decide ((p : Int) ≥ 0) = true := decide_eq_true (by omega)
         have HV := Aside0.mk (rv_ok HEX.out HF.out HKE.out hv)
         clear hc hb0 hln hpz HS2 HS1 hv HKE
         go_wp2_with fail
         refine HV.out.mono ?_
         rintro e w5 ⟨rfl, hb5⟩
         replace HT := Aside0.mk (HT.out.step hb5)
         replace BE := Aside0.mk (below_blk BE.out hb5)
         replace HF := Aside0.mk (HF.out.below' hb5)
         clear hb5 HV ce_0 ce_5 ce_6 ce_7 ce_8 ce_9
         go_upto_region 14 with ((with_reducible refine gate_store (t := 93) (p := 9) rfl ?_); refine store_whole rfl rfl 93 _ _ rfl w5.heap.size _ 93 rfl (blk_new _ _) _ rfl rfl rfl (by simp [Value.oneCell']) ?_; intro w2 hb2 hg2; have hba := below_as (Below.refl w5.heap.size w5) hg2; replace HF := Aside0.mk (HF.out.below' hba); replace HT := Aside0.mk (HT.out.step hba); replace BE := Aside0.mk (below_blk BE.out hba); obtain ⟨gc, hq_⟩ : ∃ g_, g_ = w5.heap.size := ⟨_, rfl⟩; rw [← hq_] at hb2; rw [← hq_]; have BC := Aside0.mk hb2; clear hb2 hg2 hq_ hba; have cc_0 := (blk_cell BC.out 0).trans rfl; have cc_1 := (blk_cell BC.out 1).trans rfl)
         have hpl := place_calls HF.out s.pos; rw [hpp] at hpl
         have ce_2 := (blk_cell BE.out 2).trans rfl
         go_wp2_with fail
         refine hpl.mono ?_
         rintro e w7 ⟨rfl, hb⟩
         replace HT := Aside0.mk (HT.out.step hb)
         replace HF := Aside0.mk (HF.out.below' hb)
         replace BC := Aside0.mk (below_blk BC.out hb)
         clear hb hpl ce_2 cc_0 cc_1
         have cc_0 := (blk_cell BC.out 0).trans rfl
         have cc_1 := (blk_cell BC.out 1).trans rfl
         clear hpp
         obtain ⟨fv3, fvs3, hfrm3, _, _, _⟩ := HF.out.frm
         have x3 := (blk_cell hfrm3 3).trans rfl
         clear hfrm3
         go_upto_region 17 with fail
         obtain ⟨fv4, fvs4, hfrm4, _, _, _⟩ := HF.out.frm
         have x0 := (blk_cell hfrm4 0).trans rfl
         clear hfrm4
         have y1 := (blk_cell HF.out.run.blk 1).trans rfl
         have k2 := HF.out.run.mem.frozen0 (p * 2)
         have k0 := HF.out.run.mem.cell0 p HP.out
         have k1 := HF.out.run.mem.cell1 p HP.out
         have k3 := HF.out.run.mem.frozen1 (p * 2) 1
         have k4 := HF.out.run.mem.cell1s p HP.out (.bool true)
         have k5 := HF.out.run.mem.frozen1s p (.bool true)
         have hk7 := HF.out.keepC p (v, true) HVI.out
         have HK7 := Aside0.mk (And.intro (hk7.1.below' (below_drew1 (Below.refl _ _))) hk7.2.drew)
         clear hk7
         go_region
         all_goals
          replace HF := Aside0.mk HK7.out.1
          replace HT := Aside0.mk (DV.trans HT.out (DV_run HK7.out.2))
          clear HK7 k0 k1 k2 k3 k4 k5 y1 x0 x3 cc_0 cc_1
          have HQ3 := Aside0.mk (show q1 + nmL (xs.drop (kk + 1)) ≤ Q by have := HQ2.out; omega)
          obtain ⟨fv3, fvs3, hfrm3, _, _, _⟩ := HF.out.frm
          have x3 := (blk_cell hfrm3 3).trans rfl
          clear hfrm3
          go_wp2_with fail
          go_roundg (xs.length - (kk + 1))
          case measure => omega
          case rel => exact ⟨kk + 1, f1, m1.set p (v, true), cn2, q1, by omega, by omega, by go_num, HF, HT, HQ3, HR⟩
        ·have HR := Aside0.mk (show R = (m1, cn2, none) by rw [← HS2.out, keepX_no hc]; rfl)
         have hpp : placeV N base s.pos = -1 := if_pos (by have := HF.out.b0; omega)
         clear hc HS2
         have HV := Aside0.mk (rv_ok HEX.out HF.out HKE.out hv)
         clear HS1 hv HKE
         go_wp2_with fail
         refine HV.out.mono ?_
         rintro e w5 ⟨rfl, hb5⟩
         replace HT := Aside0.mk (HT.out.step hb5)
         replace BE := Aside0.mk (below_blk BE.out hb5)
         replace HF := Aside0.mk (HF.out.below' hb5)
         clear hb5 HV ce_0 ce_5 ce_6 ce_7 ce_8 ce_9
         go_upto_region 14 with ((with_reducible refine gate_store (t := 93) (p := 9) rfl ?_); refine store_whole rfl rfl 93 _ _ rfl w5.heap.size _ 93 rfl (blk_new _ _) _ rfl rfl rfl (by simp [Value.oneCell']) ?_; intro w2 hb2 hg2; have hba := below_as (Below.refl w5.heap.size w5) hg2; replace HF := Aside0.mk (HF.out.below' hba); replace HT := Aside0.mk (HT.out.step hba); replace BE := Aside0.mk (below_blk BE.out hba); obtain ⟨gc, hq_⟩ : ∃ g_, g_ = w5.heap.size := ⟨_, rfl⟩; rw [← hq_] at hb2; rw [← hq_]; have BC := Aside0.mk hb2; clear hb2 hg2 hq_ hba; have cc_0 := (blk_cell BC.out 0).trans rfl; have cc_1 := (blk_cell BC.out 1).trans rfl)
         have hpl := place_calls HF.out s.pos; rw [hpp] at hpl
         have ce_2 := (blk_cell BE.out 2).trans rfl
         go_wp2_with fail
         refine hpl.mono ?_
         rintro e w7 ⟨rfl, hb⟩
         replace HT := Aside0.mk (HT.out.step hb)
         replace HF := Aside0.mk (HF.out.below' hb)
         replace BC := Aside0.mk (below_blk BC.out hb)
         clear hb hpl ce_2 cc_0 cc_1
         have cc_0 := (blk_cell BC.out 0).trans rfl
         have cc_1 := (blk_cell BC.out 1).trans rfl
         clear hpp
         obtain ⟨fv3, fvs3, hfrm3, _, _, _⟩ := HF.out.frm
         have x3 := (blk_cell hfrm3 3).trans rfl
         clear hfrm3
         go_wp2_with fail
         go_ret
         exact rdo_no HR.out HF.out.run HF.out.inm HT.out
     ·have n2 := e2; clear e2
      by_cases e3 : s.op = 3
      ·have o1 : (s.op == (1 : Int)) = false := beq_eq_false_iff_ne.2 n1
       have o2 : (s.op == (2 : Int)) = false := beq_eq_false_iff_ne.2 n2
       have o3 : (s.op == (3 : Int)) = true := by rw [e3]; rfl
       have E3 := Aside0.mk e3; clear e3
       have HS2 := Aside0.mk (show thenL I l N base (xs.drop (kk + 1)) (stepX I l N base s.pos s.fn s.names s.args f1 m1 cn2) = R by rw [← HS1.out, doS_eq, if_neg n1, if_neg n2, if_pos E3.out])
       replace HS1 := HS2
       clear HS2
       have HCL := Aside0.mk (HI.out s _ f1 m1 cn2 q1 _ E3.out HBS.out SK.out HF.out HEA.out (by have := HQ2.out; have := HQQ.out; omega))
       have ce_1 := (blk_cell BE.out 1).trans rfl
       have ce_2 := (blk_cell BE.out 2).trans rfl
       have ce_3 := (blk_cell BE.out 3).trans rfl
       have ce_4 := (blk_cell BE.out 4).trans rfl
       have ce_5 := (blk_cell BE.out 5).trans rfl
       have ce_6 := (blk_cell BE.out 6).trans rfl
       have ce_7 := (blk_cell BE.out 7).trans rfl
       have ce_8 := (blk_cell BE.out 8).trans rfl
       have ce_9 := (blk_cell BE.out 9).trans rfl
       have ce_10 := (blk_cell BE.out 10).trans rfl
       have ce_11 := (blk_cell BE.out 11).trans rfl
       generalize stepX I l N base s.pos s.fn s.names s.args f1 m1 cn2 = r at HS1 HCL
       go_wp2_with fail
       refine HCL.out.mono ?_
       clear HCL
       clear ce_0 ce_1 ce_2 ce_3 ce_4 ce_5 ce_6 ce_7 ce_8 ce_9 ce_10 ce_11
       intro e w9 hp
       unfold RDoPost at hp
       rcases hr : r with ⟨m2, cn3, _ | f2⟩
       ·rw [hr] at hp
        obtain ⟨⟨rfl, hR9, hm9⟩, ht9⟩ := hp
        have HR := Aside0.mk (show R = (m2, cn3, none) by rw [← HS1.out, hr]; rfl)
        have HR9 := Aside0.mk hR9
        have HM9 := Aside0.mk hm9
        replace HT := Aside0.mk (DV.trans HT.out ht9)
        clear hr hR9 hm9 ht9 HS1 HF
        go_wp2_with fail
        go_ret
        exact rdo_no HR.out HR9.out HM9.out HT.out
       ·rw [hr] at hp
        obtain ⟨⟨rfl, hF9⟩, ht9⟩ := hp
        have HR := Aside0.mk (show doL I l N base (xs.drop (kk + 1)) f2 m2 cn3 = R by rw [← HS1.out, hr]; rfl)
        replace HF := Aside0.mk hF9
        replace HT := Aside0.mk (DV.trans HT.out ht9)
        have HQ3 := Aside0.mk (show (q1 + s.names.length) + nmL (xs.drop (kk + 1)) ≤ Q by have := HQ2.out; omega)
        clear hr hF9 ht9 HS1
        obtain ⟨fv3, fvs3, hfrm3, _, _, _⟩ := HF.out.frm
        have x3 := (blk_cell hfrm3 3).trans rfl
        clear hfrm3
        go_wp2_with fail
        go_roundg (xs.length - (kk + 1))
        case measure => omega
        case rel => exact ⟨kk + 1, f2, m2, cn3, (q1 + s.names.length), by omega, by omega, by go_num, HF, HT, HQ3, HR⟩
      ·have n3 := e3; clear e3
       by_cases e4 : s.op = 4
       ·have o1 : (s.op == (1 : Int)) = false := beq_eq_false_iff_ne.2 n1
        have o2 : (s.op == (2 : Int)) = false := beq_eq_false_iff_ne.2 n2
        have o3 : (s.op == (3 : Int)) = false := beq_eq_false_iff_ne.2 n3
        have o4 : (s.op == (4 : Int)) = true := by rw [e4]; rfl
        have E4 := Aside0.mk e4; clear e4
        have HS2 := Aside0.mk (show thenL I l N base (xs.drop (kk + 1)) (resetX l N base s.pos s.fn f1 m1 cn2) = R by rw [← HS1.out, doS_eq, if_neg n1, if_neg n2, if_neg n3, if_pos E4.out])
        replace HS1 := HS2
        clear HS2
        have hfn := badS_fn4 HBS.out E4.out
        obtain ⟨ab, hab⟩ : ∃ ab, addV base s.pos = ab := ⟨_, rfl⟩
        have HAD := Aside0.mk (fun (W : World) => add_calls base s.pos W)
        have HRO := Aside0.mk (addV_reset (l := l) (fn := s.fn) (pos := s.pos) HF.out.b0 HF.out.b1 HF.out.run.few)
        rw [hab] at HAD HRO
        have hdl := HD.out
        have HAN := Aside0.mk (fun (W : World) (hR : RAtR w0 W g ma A c l N m1 tr cn2) => ranew_calls l HOK.out HMX.out w0 g ma A c N tr cn2 HC.out l.length s.fn ab m1 W hR hfn.1 (by omega) (by omega))
        have HFU := Aside0.mk (fun (h : resetOk l N base s.pos s.fn) => show ab = furV N base s.pos from hab ▸ addV_fur HF.out.b0 HF.out.b1 HF.out.run.few h.1 h.2.1)
        clear hfn hdl hab
        have ce_2 := (blk_cell BE.out 2).trans rfl
        have ce_3 := (blk_cell BE.out 3).trans rfl
        obtain ⟨fv4, fvs4, hfrm4, _, _, _⟩ := HF.out.frm
        have x0 := (blk_cell hfrm4 0).trans rfl
        have x1 := (blk_cell hfrm4 1).trans rfl
        clear hfrm4
        go_upto_region 21 with fail
        by_cases hro : resetOk l N base s.pos s.fn
        ·have HR := Aside0.mk (show doL I l N base (xs.drop (kk + 1)) f1 (anewF l l.length s.fn ab m1) cn2 = R by rw [← HS1.out, show resetX l N base s.pos s.fn f1 m1 cn2 = (anewF l l.length s.fn ab m1, cn2, some f1) by rw [HFU.out hro]; exact if_pos hro]; rfl)
         have HCO := Aside0.mk (HRO.out.2 hro)
         clear hro HS1 HRO HFU
         have HANC := Aside0.mk (show ∀ W, Below w2.heap.size w2 W → Calls Tryz.prog 48 #[.pointer (some ⟨g, 0, none⟩), .int .i64 s.fn, .int .i64 ab] W (fun e w9 => e = .returned (.bool true) ∧ (w9.cell? ⟨gf, 0, none⟩ = some (.pointer (some ⟨g, 0, none⟩)) ∧ w9.cell? ⟨gf, 1, none⟩ = some (.int .i64 base) ∧ w9.cell? ⟨ge, 2, none⟩ = some (.int .i64 s.pos) ∧ w9.cell? ⟨ge, 3, none⟩ = some (.int .i64 s.fn)) ∧ Aside0 (RAtR w0 w9 g ma A c l N (anewF l l.length s.fn ab m1) tr cn2 ∧ Turned (fun b => b = ma.block) w2 w9)) from by
          intro W hW
          refine (HAN.out W (HF.out.run.below' hW)).mono ?_
          rintro e w9 ⟨hp1, hp2, ht9⟩
          obtain ⟨rfl, hR9⟩ := hp1 HCO.out
          obtain ⟨fv9, fvs9, hfrm9, _, _, _⟩ := (HF.out.below' hW).frm
          have hf9 := ht9.blk hfrm9 HF.out.ne.2
          have hs9 := ht9.blk (below_blk BE.out hW) NBE.out.2.1
          exact ⟨rfl, ⟨(blk_cell hf9 0).trans rfl, (blk_cell hf9 1).trans rfl, (blk_cell hs9 2).trans rfl, (blk_cell hs9 3).trans rfl⟩, ⟨hR9, (Turned.of_below hW).trans ht9⟩⟩)
         clear HAN
         have z0 : w2.cell? ⟨gf, 0, none⟩ = some (.pointer (some ⟨g, 0, none⟩)) := x0
         have z1 : w2.cell? ⟨gf, 1, none⟩ = some (.int .i64 base) := x1
         have z2 : w2.cell? ⟨ge, 2, none⟩ = some (.int .i64 s.pos) := ce_2
         have z3 : w2.cell? ⟨ge, 3, none⟩ = some (.int .i64 s.fn) := ce_3
         clear ce_2 ce_3 x0 x1 ce_0
         go_region_held3 (fun w' => w'.cell? ⟨gf, 0, none⟩ = some (.pointer (some ⟨g, 0, none⟩)) ∧ w'.cell? ⟨gf, 1, none⟩ = some (.int .i64 base) ∧ w'.cell? ⟨ge, 2, none⟩ = some (.int .i64 s.pos) ∧ w'.cell? ⟨ge, 3, none⟩ = some (.int .i64 s.fn)) (go_keep) (first | (go_at_call 116; refine (HAD.out _).mono ?_; rintro e w8 ⟨rfl, rfl⟩) | (go_at_call 48; refine (HANC.out _ (by repeat (first | exact Below.refl _ _ | apply below_drew1))).mono ?_; rintro e w9 ⟨rfl, ⟨z0, z1, z2, z3⟩, HRT⟩))
         all_goals
          have HR9 := Aside0.mk HRT.out.1; have HT9 := Aside0.mk HRT.out.2; clear HRT
          replace HF := Aside0.mk (HF.out.turned HR9.out (anewF_in _ _ _ _ HF.out.inm) (HT9.out.mono (fun k _ hk => .inr hk)))
          replace HT := Aside0.mk (DV.trans HT.out (DV_run (HT9.out.mono (fun k _ hk => .inr hk))))
          clear HR9 HT9 z0 z1 z2 z3
          have HQ3 := Aside0.mk (show q1 + nmL (xs.drop (kk + 1)) ≤ Q by have := HQ2.out; omega)
          obtain ⟨fv3, fvs3, hfrm3, _, _, _⟩ := HF.out.frm
          have x3 := (blk_cell hfrm3 3).trans rfl
          clear hfrm3
          go_wp2_with fail
          go_roundg (xs.length - (kk + 1))
          case measure => omega
          case rel => exact ⟨kk + 1, f1, anewF l l.length s.fn ab m1, cn2, q1, by omega, by omega, by go_num, HF, HT, HQ3, HR⟩
        ·have HR := Aside0.mk (show R = (m1, cn2, none) by rw [← HS1.out, show resetX l N base s.pos s.fn f1 m1 cn2 = (m1, cn2, none) from if_neg hro]; rfl)
         have HCO := Aside0.mk (fun h => hro (HRO.out.1 h))
         clear hro HS1 HRO HFU
         have HANC := Aside0.mk (show ∀ W, Below w2.heap.size w2 W → Calls Tryz.prog 48 #[.pointer (some ⟨g, 0, none⟩), .int .i64 s.fn, .int .i64 ab] W (fun e w9 => e = .returned (.bool false) ∧ (w9.cell? ⟨gf, 0, none⟩ = some (.pointer (some ⟨g, 0, none⟩)) ∧ w9.cell? ⟨gf, 1, none⟩ = some (.int .i64 base) ∧ w9.cell? ⟨ge, 2, none⟩ = some (.int .i64 s.pos) ∧ w9.cell? ⟨ge, 3, none⟩ = some (.int .i64 s.fn)) ∧ Aside0 (RAtR w0 w9 g ma A c l N m1 tr cn2 ∧ Turned (fun b => b = ma.block) w2 w9)) from by
          intro W hW
          refine (HAN.out W (HF.out.run.below' hW)).mono ?_
          rintro e w9 ⟨hp1, hp2, ht9⟩
          obtain ⟨rfl, hR9⟩ := hp2 HCO.out
          obtain ⟨fv9, fvs9, hfrm9, _, _, _⟩ := (HF.out.below' hW).frm
          have hf9 := ht9.blk hfrm9 HF.out.ne.2
          have hs9 := ht9.blk (below_blk BE.out hW) NBE.out.2.1
          exact ⟨rfl, ⟨(blk_cell hf9 0).trans rfl, (blk_cell hf9 1).trans rfl, (blk_cell hs9 2).trans rfl, (blk_cell hs9 3).trans rfl⟩, ⟨hR9, (Turned.of_below hW).trans ht9⟩⟩)
         clear HAN
         have z0 : w2.cell? ⟨gf, 0, none⟩ = some (.pointer (some ⟨g, 0, none⟩)) := x0
         have z1 : w2.cell? ⟨gf, 1, none⟩ = some (.int .i64 base) := x1
         have z2 : w2.cell? ⟨ge, 2, none⟩ = some (.int .i64 s.pos) := ce_2
         have z3 : w2.cell? ⟨ge, 3, none⟩ = some (.int .i64 s.fn) := ce_3
         clear ce_2 ce_3 x0 x1 ce_0
         go_region_held3 (fun w' => w'.cell? ⟨gf, 0, none⟩ = some (.pointer (some ⟨g, 0, none⟩)) ∧ w'.cell? ⟨gf, 1, none⟩ = some (.int .i64 base) ∧ w'.cell? ⟨ge, 2, none⟩ = some (.int .i64 s.pos) ∧ w'.cell? ⟨ge, 3, none⟩ = some (.int .i64 s.fn)) (go_keep) (first | (go_at_call 116; refine (HAD.out _).mono ?_; rintro e w8 ⟨rfl, rfl⟩) | (go_at_call 48; refine (HANC.out _ (by repeat (first | exact Below.refl _ _ | apply below_drew1))).mono ?_; rintro e w9 ⟨rfl, ⟨z0, z1, z2, z3⟩, HRT⟩))
         all_goals
          have HR9 := Aside0.mk HRT.out.1; have HT9 := Aside0.mk HRT.out.2; clear HRT
          replace HT := Aside0.mk (DV.trans HT.out (DV_run (HT9.out.mono (fun k _ hk => .inr hk))))
          clear HT9 z0 z1 z2 z3
          go_wp2_with fail
          go_ret
          exact rdo_no HR.out HR9.out HF.out.inm HT.out
       ·have n4 := e4; clear e4
        by_cases e5 : s.op = 5
        ·have o1 : (s.op == (1 : Int)) = false := beq_eq_false_iff_ne.2 n1
         have o2 : (s.op == (2 : Int)) = false := beq_eq_false_iff_ne.2 n2
         have o3 : (s.op == (3 : Int)) = false := beq_eq_false_iff_ne.2 n3
         have o4 : (s.op == (4 : Int)) = false := beq_eq_false_iff_ne.2 n4
         have o5 : (s.op == (5 : Int)) = true := by rw [e5]; rfl
         have E5 := Aside0.mk e5; clear e5
         have HS2 := Aside0.mk (show thenL I l N base (xs.drop (kk + 1)) (if (vget f1 s.name).2 then doA I l N base (vget f1 s.name).1 s.arms f1 m1 cn2 else (m1, cn2, none)) = R by rw [← HS1.out, doS_eq, if_neg n1, if_neg n2, if_neg n3, if_neg n4, if_pos E5.out])
         replace HS1 := HS2
         clear HS2
         have HCL := Aside0.mk (choose_calls w0 g ma A c l N tr gf base bv I d s _ f1 m1 cn2 q1 _ HBS.out SK.out HF.out HER.out (by have := HQ2.out; have := HQQ.out; omega) HIS.out)
         have ce_1 := (blk_cell BE.out 1).trans rfl
         have ce_2 := (blk_cell BE.out 2).trans rfl
         have ce_3 := (blk_cell BE.out 3).trans rfl
         have ce_4 := (blk_cell BE.out 4).trans rfl
         have ce_5 := (blk_cell BE.out 5).trans rfl
         have ce_6 := (blk_cell BE.out 6).trans rfl
         have ce_7 := (blk_cell BE.out 7).trans rfl
         have ce_8 := (blk_cell BE.out 8).trans rfl
         have ce_9 := (blk_cell BE.out 9).trans rfl
         have ce_10 := (blk_cell BE.out 10).trans rfl
         have ce_11 := (blk_cell BE.out 11).trans rfl
         generalize (if (vget f1 s.name).2 = true then doA I l N base (vget f1 s.name).1 s.arms f1 m1 cn2 else (m1, cn2, none)) = r at HS1 HCL
         go_wp2_with fail
         refine HCL.out.mono ?_
         clear HCL
         clear ce_0 ce_1 ce_2 ce_3 ce_4 ce_5 ce_6 ce_7 ce_8 ce_9 ce_10 ce_11
         intro e w9 hp
         unfold RDoPost at hp
         rcases hr : r with ⟨m2, cn3, _ | f2⟩
         ·rw [hr] at hp
          obtain ⟨⟨rfl, hR9, hm9⟩, ht9⟩ := hp
          have HR := Aside0.mk (show R = (m2, cn3, none) by rw [← HS1.out, hr]; rfl)
          have HR9 := Aside0.mk hR9
          have HM9 := Aside0.mk hm9
          replace HT := Aside0.mk (DV.trans HT.out ht9)
          clear hr hR9 hm9 ht9 HS1 HF
          go_wp2_with fail
          go_ret
          exact rdo_no HR.out HR9.out HM9.out HT.out
         ·rw [hr] at hp
          obtain ⟨⟨rfl, hF9⟩, ht9⟩ := hp
          have HR := Aside0.mk (show doL I l N base (xs.drop (kk + 1)) f2 m2 cn3 = R by rw [← HS1.out, hr]; rfl)
          replace HF := Aside0.mk hF9
          replace HT := Aside0.mk (DV.trans HT.out ht9)
          have HQ3 := Aside0.mk (show (q1 + nmA s.arms) + nmL (xs.drop (kk + 1)) ≤ Q by have := HQ2.out; omega)
          clear hr hF9 ht9 HS1
          obtain ⟨fv3, fvs3, hfrm3, _, _, _⟩ := HF.out.frm
          have x3 := (blk_cell hfrm3 3).trans rfl
          clear hfrm3
          go_wp2_with fail
          go_roundg (xs.length - (kk + 1))
          case measure => omega
          case rel => exact ⟨kk + 1, f2, m2, cn3, (q1 + nmA s.arms), by omega, by omega, by go_num, HF, HT, HQ3, HR⟩
        ·have n5 := e5; clear e5
         have o1 : (s.op == (1 : Int)) = false := beq_eq_false_iff_ne.2 n1
         have o2 : (s.op == (2 : Int)) = false := beq_eq_false_iff_ne.2 n2
         have o3 : (s.op == (3 : Int)) = false := beq_eq_false_iff_ne.2 n3
         have o4 : (s.op == (4 : Int)) = false := beq_eq_false_iff_ne.2 n4
         have o5 : (s.op == (5 : Int)) = false := beq_eq_false_iff_ne.2 n5
         have HR := Aside0.mk (show R = (m1, cn2, none) by rw [← HS1.out, doS_eq, if_neg n1, if_neg n2, if_neg n3, if_neg n4, if_neg n5]; rfl)
         clear HS1
         go_wp2_with fail
         go_ret
         exact rdo_no HR.out HF.out.run HF.out.inm HT.out
   ·have hltz : ¬ (kk : Int) < (xs.length : Int) := by omega
    obtain rfl : kk = xs.length := by omega
    have HR := Aside0.mk (show R = (m1, cn1, some f1) by have h := HS.out; rw [List.drop_length, doL] at h; exact h.symm)
    clear HS
    go_wp2_with fail
    go_ret
    exact rdo_yes HR.out HF.out (by have := HQ1.out; omega) HT.out
end Go.Proofs.YticndoihkfbpoaaGreatDoor
