/- The reference of bounds: cost, all, Cells, Cost, Least. -/
import Derived.StillTailTactics
import Derived.Test.YticndoihkfbpoaaGreatDoorVs
import Derived.Test.YticndoihkfbpoaaGreatDoorVj
namespace Go.Proofs.YticndoihkfbpoaaGreatDoor
open Go Go.RowKit Go.Lib Go.Proofs.YticndoihkfbpoaaGreatDoorW.PrintWords Go.Proofs.YticndoihkfbpoaaGreatDoor.PScope
set_option maxRecDepth 100000
set_option linter.unusedSimpArgs false
set_option linter.unusedVariables false

/-- What cost answers of a row. -/
def RCostSays (mx : Bool) (l : List FS) : Prop := ∀ (fs : List Int) (w : World) (A : Option Addr) (c : Nat) (F : Option Addr) (cF : Nat), kFS.C w A l.length l → (Kd.int .i64).C w F fs.length fs → FsOk fs → badL fs.length l = false →
  Calls Tryz.prog 65 #[.slice A l.length c, .slice F fs.length cF, .bool (!mx)] w fun e w' => e = .returned (.int .i64 (costL mx fs 0 l)) ∧ Below w.heap.size w w'
theorem greatest_first {c : Int} {r : List Int} (h : 0 ≤ c) : greatestL 0 (c :: r) = greatestL c r := by rw [greatestL, Int.max_eq_right h]

set_option maxHeartbeats 8000000 in
theorem rcostMost_calls : ∀ (l : List FS), Small l → RCostSays true l := by
  intro l hl
  induction hl with
  | mk l h1 h2 h3 ih =>
    intro fs w A c F cF hC hF hO hb
    show Calls Tryz.prog 65 #[.slice A l.length c, .slice F fs.length cF, .bool false] w _
    have hmax : l.length ≤ 9223372036854775807 := hC.2.1
    have HI := Aside0.mk ih
    have HC := Aside0.mk hC
    have HF := Aside0.mk hF
    have HO := Aside0.mk hO
    have HBD := Aside0.mk hb
    have HAR := Aside0.mk h2
    have HSU := Aside0.mk h3
    clear h1 h2 h3 ih hC hF hO hb
    go_enter Tryz.func65, Tryz.ntmps65
    go_wp2
    go_loopg [7, 8] l.length (fun gg s7 s8 wr => ∃ (kk : Nat) (cur : Int), kk ≤ l.length ∧ l.length - kk ≤ gg ∧ s8 = .int .i64 kk ∧ s7 = .int .i64 cur ∧ Aside0 (Below w.heap.size w wr) ∧ Aside0 (0 ≤ cur ∧ cur ≤ 1073741824) ∧ Aside0 (costL true fs cur (l.drop kk) = costL true fs 0 l))
    case atStart => exact ⟨0, 0, Nat.zero_le _, by omega, rfl, rfl, ⟨Below.refl _ _⟩, ⟨by omega⟩, ⟨rfl⟩⟩
    case round =>
      obtain ⟨kk, cur, hkk, hg, rfl, rfl, HB, HR, HS⟩ := hrel
      by_cases hlt : kk < l.length
      · have hltz : (kk : Int) < (l.length : Int) := by omega
        have hk0 : (0 : Int) ≤ (kk : Int) := by omega
        have HM := Aside0.mk (getD_mem hlt zFS)
        have HS1 := Aside0.mk (show costL true fs (costS true fs cur (l.getD kk zFS)) (l.drop (kk + 1)) = costL true fs 0 l by rw [← HS.out, drop_getD l kk hlt zFS, costL])
        clear HS
        obtain ⟨ead, ecs, rfl, _, eK, ecc⟩ := Kd.C_get HC.out zFS (kk : Int) (by omega) (by omega)
        have eK' := eK
        obtain ⟨eA4, ec4, eA8, ec8, eA9, ec9, eA6, ec6, eA7, ec7, rfl, el4, eg4, el8, eg8, el9, eg9, el6, eg6, el7, eg7⟩ := kFS_openV eK'
        have ex0 := (HB.out.cell (World.block_lt_of_cell? w _ (ecc 0 _ rfl))).trans (ecc 0 _ rfl)
        have ex1 := (HB.out.cell (World.block_lt_of_cell? w _ (ecc 1 _ rfl))).trans (ecc 1 _ rfl)
        have ex2 := (HB.out.cell (World.block_lt_of_cell? w _ (ecc 2 _ rfl))).trans (ecc 2 _ rfl)
        have ex3 := (HB.out.cell (World.block_lt_of_cell? w _ (ecc 3 _ rfl))).trans (ecc 3 _ rfl)
        have ex4 := (HB.out.cell (World.block_lt_of_cell? w _ (ecc 4 _ rfl))).trans (ecc 4 _ rfl)
        have ex5 := (HB.out.cell (World.block_lt_of_cell? w _ (ecc 5 _ rfl))).trans (ecc 5 _ rfl)
        have ex6 := (HB.out.cell (World.block_lt_of_cell? w _ (ecc 6 _ rfl))).trans (ecc 6 _ rfl)
        have ex7 := (HB.out.cell (World.block_lt_of_cell? w _ (ecc 7 _ rfl))).trans (ecc 7 _ rfl)
        have ex8 := (HB.out.cell (World.block_lt_of_cell? w _ (ecc 8 _ rfl))).trans (ecc 8 _ rfl)
        have ex9 := (HB.out.cell (World.block_lt_of_cell? w _ (ecc 9 _ rfl))).trans (ecc 9 _ rfl)
        have ex10 := (HB.out.cell (World.block_lt_of_cell? w _ (ecc 10 _ rfl))).trans (ecc 10 _ rfl)
        have ex11 := (HB.out.cell (World.block_lt_of_cell? w _ (ecc 11 _ rfl))).trans (ecc 11 _ rfl)
        rw [show (kFS).sz = 12 from rfl, Nat.add_zero, Int.toNat_natCast] at ex0
        rw [show (kFS).sz = 12 from rfl, Int.toNat_natCast, add_field _ _ 1 (by omega)] at ex1
        rw [show (kFS).sz = 12 from rfl, Int.toNat_natCast, add_field _ _ 2 (by omega)] at ex2
        rw [show (kFS).sz = 12 from rfl, Int.toNat_natCast, add_field _ _ 3 (by omega)] at ex3
        rw [show (kFS).sz = 12 from rfl, Int.toNat_natCast, add_field _ _ 4 (by omega)] at ex4
        rw [show (kFS).sz = 12 from rfl, Int.toNat_natCast, add_field _ _ 5 (by omega)] at ex5
        rw [show (kFS).sz = 12 from rfl, Int.toNat_natCast, add_field _ _ 6 (by omega)] at ex6
        rw [show (kFS).sz = 12 from rfl, Int.toNat_natCast, add_field _ _ 7 (by omega)] at ex7
        rw [show (kFS).sz = 12 from rfl, Int.toNat_natCast, add_field _ _ 8 (by omega)] at ex8
        rw [show (kFS).sz = 12 from rfl, Int.toNat_natCast, add_field _ _ 9 (by omega)] at ex9
        rw [show (kFS).sz = 12 from rfl, Int.toNat_natCast, add_field _ _ 10 (by omega)] at ex10
        rw [show (kFS).sz = 12 from rfl, Int.toNat_natCast, add_field _ _ 11 (by omega)] at ex11
        clear ecc
        try simp only [Int.toNat_natCast] at ex0 ex1 ex2 ex3 ex4 ex5 ex6 ex7 ex8 ex9 ex10 ex11 eK el4 eg4 el8 eg8 el9 eg9 el6 eg6 el7 eg7
        generalize Ys0 : l.getD kk zFS = s at ex0 ex1 ex2 ex3 ex4 ex5 ex6 ex7 ex8 ex9 ex10 ex11 eK el4 eg4 el8 eg8 el9 eg9 el6 eg6 el7 eg7
        have Ys := Aside0.mk Ys0; clear Ys0
        rw [Ys.out] at HS1 HM
        have eL4 := Aside0.mk el4; have eG4 := Aside0.mk eg4; clear el4 eg4
        have eL8 := Aside0.mk el8; have eG8 := Aside0.mk eg8; clear el8 eg8
        have eL9 := Aside0.mk el9; have eG9 := Aside0.mk eg9; clear el9 eg9
        have eL6 := Aside0.mk el6; have eG6 := Aside0.mk eg6; clear el6 eg6
        have eL7 := Aside0.mk el7; have eG7 := Aside0.mk eg7; clear el7 eg7
        clear eK
        have HBS := Aside0.mk (badL_mem HBD.out HM.out)
        have HAL := Aside0.mk (HAR.out s HM.out)
        have HSB := Aside0.mk (HSU.out s HM.out)
        have HIS := Aside0.mk (HI.out s HM.out)
        by_cases h3 : s.op = 3
        · have y3 : (s.op == (3 : Int)) = true := by rw [h3]; rfl
          have y5 : (s.op == (5 : Int)) = false := by rw [h3]; rfl
          have hfn := badS_fn HBS.out h3
          have HN := Aside0.mk (show costS true fs cur s = min (cur + 1 + rd0 fs s.fn) 1073741824 by rw [costS_eq, if_pos h3])
          have HNB := Aside0.mk (show 0 ≤ cur + 1 + rd0 fs s.fn ∧ cur + 1 + rd0 fs s.fn ≤ 4294967296 by have := HR.out; have := rd0_ok HO.out s.fn; omega)
          have HTB := Aside0.mk (rd0_ok HO.out s.fn)
          rw [HN.out] at HS1
          clear h3
          have hf0 := hfn.1
          have hf1 := hfn.2
          clear hfn
          obtain ⟨tad, tcs, rfl, _, tK, tcc⟩ := Kd.C_get HF.out (0 : Int) s.fn (by omega) (by omega)
          obtain rfl := tK
          have tx0 := ((Below.refl w.heap.size w).cell (World.block_lt_of_cell? w _ (tcc 0 _ rfl))).trans (tcc 0 _ rfl)
          simp only [show (Kd.int .i64).sz = 1 from rfl, Nat.mul_one, Nat.add_zero] at tx0
          clear tcc
          generalize Yt0 : fs.getD s.fn.toNat (0 : Int) = t at tx0
          have Yt := Aside0.mk Yt0; clear Yt0
          have Yt2 := Aside0.mk (show rd0 fs s.fn = t from Yt.out)
          rw [Yt2.out] at HS1 HNB HTB
          have hwa : wrap64 (1 + t) = 1 + t := by have := HTB.out; unfold wrap64; omega
          have hwb : wrap64 (cur + (1 + t)) = cur + 1 + t := by have := HNB.out; unfold wrap64; omega
          go_wp2_with ((with_reducible refine gate_store (t := 41) (p := 10) rfl ?_); refine store_whole rfl rfl 41 _ _ rfl wr.heap.size _ 41 rfl (blk_new _ _) _ rfl rfl rfl (by simp [Value.oneCell']) ?_; intro w2 hb2 hg2; replace HB := Aside0.mk (below_as HB.out hg2); obtain ⟨ge, hq_⟩ : ∃ g_, g_ = wr.heap.size := ⟨_, rfl⟩; rw [← hq_] at hb2; rw [← hq_]; have BE := Aside0.mk hb2; clear hb2 hg2 hq_; have ty := (HB.out.cell (World.block_lt_of_cell? w _ tx0)).trans tx0; have ce_0 := (blk_cell BE.out 0).trans rfl; have ce_1 := (blk_cell BE.out 1).trans rfl; have ce_2 := (blk_cell BE.out 2).trans rfl; have ce_3 := (blk_cell BE.out 3).trans rfl; have ce_4 := (blk_cell BE.out 4).trans rfl; have ce_5 := (blk_cell BE.out 5).trans rfl; have ce_6 := (blk_cell BE.out 6).trans rfl; have ce_7 := (blk_cell BE.out 7).trans rfl; have ce_8 := (blk_cell BE.out 8).trans rfl; have ce_9 := (blk_cell BE.out 9).trans rfl; have ce_10 := (blk_cell BE.out 10).trans rfl; have ce_11 := (blk_cell BE.out 11).trans rfl)
          clear ce_0 ce_1 ce_2 ce_3 ce_4 ce_5 ce_6 ce_7 ce_8 ce_9 ce_10 ce_11 ty tx0 BE
          go_roundg (l.length - (kk + 1))
          case measure => omega
          case rel => exact ⟨kk + 1, min (cur + 1 + t) 1073741824, by omega, by omega, by go_num, by first | rfl | go_num | (rw [hwb]), HB, ⟨by have := HNB.out; omega⟩, HS1⟩
        have y3 : (s.op == (3 : Int)) = false := beq_eq_false_iff_ne.2 h3
        by_cases h5 : s.op = 5
        · have y5 : (s.op == (5 : Int)) = true := by rw [h5]; rfl
          have HN := Aside0.mk (show costS true fs cur s = min (cur + 1 + armsL true (s.arms.map (fun a => costL true fs 0 a.2))) 1073741824 by rw [costS_eq, if_neg h3, if_pos h5])
          clear h3 h5
          by_cases hae : s.arms.length = 0
          · have hz : decide (0 < s.arms.length) = false := decide_eq_false (by omega)
            have hnil : s.arms = [] := List.eq_nil_of_length_eq_zero hae
            have HN2 := Aside0.mk (show costS true fs cur s = min (cur + 1) 1073741824 by rw [HN.out, hnil]; simp [armsL, greatestL])
            have HNB := Aside0.mk (show 0 ≤ cur + 1 ∧ cur + 1 ≤ 4294967296 by have := HR.out; omega)
            rw [HN2.out] at HS1
            clear hae hnil HN
            have hwb : wrap64 (cur + 1) = cur + 1 := by have := HNB.out; unfold wrap64; omega
            go_wp2_with ((with_reducible refine gate_store (t := 41) (p := 10) rfl ?_); refine store_whole rfl rfl 41 _ _ rfl wr.heap.size _ 41 rfl (blk_new _ _) _ rfl rfl rfl (by simp [Value.oneCell']) ?_; intro w2 hb2 hg2; replace HB := Aside0.mk (below_as HB.out hg2); obtain ⟨ge, hq_⟩ : ∃ g_, g_ = wr.heap.size := ⟨_, rfl⟩; rw [← hq_] at hb2; rw [← hq_]; have BE := Aside0.mk hb2; clear hb2 hg2 hq_; have ce_0 := (blk_cell BE.out 0).trans rfl; have ce_1 := (blk_cell BE.out 1).trans rfl; have ce_2 := (blk_cell BE.out 2).trans rfl; have ce_3 := (blk_cell BE.out 3).trans rfl; have ce_4 := (blk_cell BE.out 4).trans rfl; have ce_5 := (blk_cell BE.out 5).trans rfl; have ce_6 := (blk_cell BE.out 6).trans rfl; have ce_7 := (blk_cell BE.out 7).trans rfl; have ce_8 := (blk_cell BE.out 8).trans rfl; have ce_9 := (blk_cell BE.out 9).trans rfl; have ce_10 := (blk_cell BE.out 10).trans rfl; have ce_11 := (blk_cell BE.out 11).trans rfl)
            clear ce_0 ce_1 ce_2 ce_3 ce_4 ce_5 ce_6 ce_7 ce_8 ce_9 ce_10 ce_11 BE
            go_roundg (l.length - (kk + 1))
            case measure => omega
            case rel => exact ⟨kk + 1, min (cur + 1) 1073741824, by omega, by omega, by go_num, by first | rfl | go_num | (rw [hwb]), HB, ⟨by have := HNB.out; omega⟩, HS1⟩
          have hz : decide (0 < s.arms.length) = true := decide_eq_true (by omega)
          have hz0 : (0 : Int) < (s.arms.length : Int) := by omega
          have haml : s.arms.length ≤ 8796093022208 := HAL.out
          have HALL := Aside0.mk (show ∀ a ∈ s.arms, 0 ≤ costL true fs 0 a.2 ∧ costL true fs 0 a.2 ≤ 1073741824 from fun a ha => costL_ok HO.out (HSB.out a ha) 0 (by omega) (by omega))
          have HPOS := Aside0.mk (show 0 < s.arms.length by omega)
          clear hae
          have HMa0 := Aside0.mk (getD_mem HPOS.out zFA)
          obtain ⟨fad, fcs, rfl, _, fK, fcc⟩ := Kd.C_get eG7.out zFA (0 : Int) (by omega) hz0
          have fK' := fK
          obtain ⟨fA1, fc1, rfl, fl1, fg1⟩ := kFA_open fK'
          have fx1 : w.cell? ⟨fad.block, fad.off + 1, none⟩ = some (.slice fA1 (s.arms.getD 0 zFA).2.length fc1) := by have h := fcc 1 _ rfl; rw [show (Int.toNat 0 * kFA.sz + 1) = 0 + 1 from rfl, add_field _ _ 1 (by omega), Addr.add_zero'] at h; exact h
          rw [show (0 : Int).toNat = 0 from rfl] at fl1 fg1
          clear fcc fK fK'
          generalize Ya00 : s.arms.getD 0 zFA = a0 at fx1 fl1 fg1 HMa0
          have Ya0 := Aside0.mk Ya00; clear Ya00
          have fL1 := Aside0.mk fl1; have fG1 := Aside0.mk fg1; clear fl1 fg1
          have hcall_a0 := fun (W : World) (hB : Below w.heap.size w W) => HIS.out a0 HMa0.out fs W fA1 fc1 F cF (Kd.C_below fG1.out hB) (Kd.C_below HF.out hB) HO.out (badS_arm HBS.out HMa0.out)
          have HCB_a0 := Aside0.mk (HALL.out a0 HMa0.out)
          skip
          have HFST := Aside0.mk (show s.arms.map (fun a => costL true fs 0 a.2) = costL true fs 0 a0.2 :: (s.arms.drop 1).map (fun a => costL true fs 0 a.2) by have h := drop_getD s.arms 0 HPOS.out zFA; rw [List.drop_zero, Ya0.out] at h; rw [h]; simp)
          go_wp2_with ((with_reducible refine gate_store (t := 41) (p := 10) rfl ?_); refine store_whole rfl rfl 41 _ _ rfl wr.heap.size _ 41 rfl (blk_new _ _) _ rfl rfl rfl (by simp [Value.oneCell']) ?_; intro w2 hb2 hg2; replace HB := Aside0.mk (below_as HB.out hg2); obtain ⟨ge, hq_⟩ : ∃ g_, g_ = wr.heap.size := ⟨_, rfl⟩; rw [← hq_] at hb2; rw [← hq_]; have BE := Aside0.mk hb2; clear hb2 hg2 hq_; have fy1 := (HB.out.cell (World.block_lt_of_cell? w _ fx1)).trans fx1; have ce_0 := (blk_cell BE.out 0).trans rfl; have ce_1 := (blk_cell BE.out 1).trans rfl; have ce_2 := (blk_cell BE.out 2).trans rfl; have ce_3 := (blk_cell BE.out 3).trans rfl; have ce_4 := (blk_cell BE.out 4).trans rfl; have ce_5 := (blk_cell BE.out 5).trans rfl; have ce_6 := (blk_cell BE.out 6).trans rfl; have ce_7 := (blk_cell BE.out 7).trans rfl; have ce_8 := (blk_cell BE.out 8).trans rfl; have ce_9 := (blk_cell BE.out 9).trans rfl; have ce_10 := (blk_cell BE.out 10).trans rfl; have ce_11 := (blk_cell BE.out 11).trans rfl)
          refine (hcall_a0 _ HB.out).mono ?_
          rintro e w7 ⟨rfl, hb⟩
          replace BE := Aside0.mk (below_blk BE.out hb)
          replace HB := Aside0.mk (below_step HB.out hb)
          clear hb hcall_a0 fy1 ce_0 ce_1 ce_2 ce_3 ce_4 ce_5 ce_6 ce_7 ce_8 ce_9 ce_10 ce_11
          obtain ⟨b0, hb0⟩ : ∃ b0, costL true fs 0 a0.2 = b0 := ⟨_, rfl⟩
          rw [hb0] at HFST HCB_a0 ⊢
          clear hb0
          go_wp2_with fail
          go_loopg [11, 12] s.arms.length (fun gg s11 s12 wr => ∃ (jj : Nat) (best : Int), 1 ≤ jj ∧ jj ≤ s.arms.length ∧ s.arms.length - jj ≤ gg ∧ s12 = .int .i64 jj ∧ s11 = .int .i64 best ∧ Aside0 (Below w.heap.size w wr) ∧ Aside0 (wr.heap[ge]? = some (.cells #[.int .i64 s.op, .string s.name, .int .i64 s.pos, .int .i64 s.fn, .slice eA4 (s.names).length ec4, .int .i64 s.e.f0, .string s.e.f1, .int .i64 s.e.f2, .slice eA8 (s.e.f3).length ec8, .slice eA9 (s.e.f4).length ec9, .slice eA6 (s.args).length ec6, .slice (some fad) (s.arms).length ec7] 41 (0, 0))) ∧ Aside0 (0 ≤ best ∧ best ≤ 1073741824) ∧ Aside0 (greatestL best ((s.arms.drop jj).map (fun a => costL true fs 0 a.2)) = greatestL b0 ((s.arms.drop 1).map (fun a => costL true fs 0 a.2))))
          case atStart => exact ⟨1, b0, Nat.le_refl _, by have := HPOS.out; omega, by omega, rfl, rfl, HB, BE, HCB_a0, ⟨rfl⟩⟩
          case round =>
            clear HB BE
            obtain ⟨jj, best, hj1, hjj, hgj, rfl, rfl, HB, BE, HBB, HGR⟩ := hrel
            have ce_7 := (blk_cell BE.out 11).trans rfl
            by_cases hltj : jj < s.arms.length
            · have hltzj : (jj : Int) < (s.arms.length : Int) := by omega
              have hj0 : (0 : Int) ≤ (jj : Int) := by omega
              have HMa := Aside0.mk (getD_mem (show jj < s.arms.length by omega) zFA)
              obtain ⟨had, hcs, heq_, _, hK, hcc⟩ := Kd.C_get eG7.out zFA (jj : Int) (by omega) (by omega)
              injection heq_ with heq_
              subst heq_
              have hK' := hK
              obtain ⟨hA1, hc1, rfl, hl1, hg1⟩ := kFA_open hK'
              have hx0 := ((Below.refl w.heap.size w).cell (World.block_lt_of_cell? w _ (hcc 0 _ rfl))).trans (hcc 0 _ rfl)
              have hx1 := ((Below.refl w.heap.size w).cell (World.block_lt_of_cell? w _ (hcc 1 _ rfl))).trans (hcc 1 _ rfl)
              rw [show (kFA).sz = 2 from rfl, Nat.add_zero, Int.toNat_natCast] at hx0
              rw [show (kFA).sz = 2 from rfl, Int.toNat_natCast, add_field _ _ 1 (by omega)] at hx1
              clear hcc
              try simp only [Int.toNat_natCast] at hx0 hx1 hK hl1 hg1
              generalize Ya0 : s.arms.getD jj zFA = a at hx0 hx1 hK hl1 hg1
              have Ya := Aside0.mk Ya0; clear Ya0
              rw [Ya.out] at HMa
              have hL1 := Aside0.mk hl1; have hG1 := Aside0.mk hg1; clear hl1 hg1
              clear hK
              have hcall_a := fun (W : World) (hB : Below w.heap.size w W) => HIS.out a HMa.out fs W hA1 hc1 F cF (Kd.C_below hG1.out hB) (Kd.C_below HF.out hB) HO.out (badS_arm HBS.out HMa.out)
              have HCB_a := Aside0.mk (HALL.out a HMa.out)
              have HG1 := Aside0.mk (show greatestL (max best (costL true fs 0 a.2)) ((s.arms.drop (jj + 1)).map (fun a => costL true fs 0 a.2)) = greatestL b0 ((s.arms.drop 1).map (fun a => costL true fs 0 a.2)) by rw [← HGR.out, drop_getD s.arms jj hltj zFA, List.map_cons, greatestL, Ya.out])
              have hy1 := (HB.out.cell (World.block_lt_of_cell? w _ hx1)).trans hx1
              go_wp2_with fail
              refine (hcall_a _ HB.out).mono ?_
              rintro e w8 ⟨rfl, hb⟩
              replace BE := Aside0.mk (below_blk BE.out hb)
              replace HB := Aside0.mk (below_step HB.out hb)
              clear hb hcall_a hy1 ce_7
              obtain ⟨r, hr⟩ : ∃ r, costL true fs 0 a.2 = r := ⟨_, rfl⟩
              rw [hr] at HCB_a HG1 ⊢
              clear hr
              go_wp2_with fail
              go_roundg (s.arms.length - (jj + 1))
              case measure => omega
              case rel => exact ⟨jj + 1, max best r, by omega, by omega, by omega, by go_num, by first | rfl | go_num, HB, BE, ⟨by have := HBB.out; have := HCB_a.out; omega⟩, HG1⟩
            · have hltzj : ¬ (jj : Int) < (s.arms.length : Int) := by omega
              obtain rfl : jj = s.arms.length := by omega
              have HAE := Aside0.mk (show armsL true (s.arms.map (fun a => costL true fs 0 a.2)) = best by
                have h := HGR.out
                rw [List.drop_length] at h
                show greatestL 0 _ = best
                rw [HFST.out, greatest_first HCB_a0.out.1, ← h]; rfl)
              rw [HN.out, HAE.out] at HS1
              have HNB := Aside0.mk (show 0 ≤ cur + 1 + best ∧ cur + 1 + best ≤ 4294967296 by have := HR.out; have := HBB.out; omega)
              have hwa : wrap64 (1 + best) = 1 + best := by have := HBB.out; unfold wrap64; omega
              have hwb : wrap64 (cur + (1 + best)) = cur + 1 + best := by have := HNB.out; unfold wrap64; omega
              clear HGR HFST HN hgj hjj hltj hj1
              go_wp2_with fail
              clear ce_7
              go_roundg (l.length - (kk + 1))
              case measure => omega
              case rel => exact ⟨kk + 1, min (cur + 1 + best) 1073741824, by omega, by omega, by go_num, by first | rfl | go_num | (rw [hwb]), HB, ⟨by have := HNB.out; omega⟩, HS1⟩
        have y5 : (s.op == (5 : Int)) = false := beq_eq_false_iff_ne.2 h5
        have HN := Aside0.mk (show costS true fs cur s = min (cur + 1) 1073741824 by rw [costS_eq, if_neg h3, if_neg h5])
        have HNB := Aside0.mk (show 0 ≤ cur + 1 ∧ cur + 1 ≤ 4294967296 by have := HR.out; omega)
        rw [HN.out] at HS1
        clear h3 h5
        have hwb : wrap64 (cur + 1) = cur + 1 := by have := HNB.out; unfold wrap64; omega
        go_wp2_with ((with_reducible refine gate_store (t := 41) (p := 10) rfl ?_); refine store_whole rfl rfl 41 _ _ rfl wr.heap.size _ 41 rfl (blk_new _ _) _ rfl rfl rfl (by simp [Value.oneCell']) ?_; intro w2 hb2 hg2; replace HB := Aside0.mk (below_as HB.out hg2); obtain ⟨ge, hq_⟩ : ∃ g_, g_ = wr.heap.size := ⟨_, rfl⟩; rw [← hq_] at hb2; rw [← hq_]; have BE := Aside0.mk hb2; clear hb2 hg2 hq_; have ce_0 := (blk_cell BE.out 0).trans rfl; have ce_1 := (blk_cell BE.out 1).trans rfl; have ce_2 := (blk_cell BE.out 2).trans rfl; have ce_3 := (blk_cell BE.out 3).trans rfl; have ce_4 := (blk_cell BE.out 4).trans rfl; have ce_5 := (blk_cell BE.out 5).trans rfl; have ce_6 := (blk_cell BE.out 6).trans rfl; have ce_7 := (blk_cell BE.out 7).trans rfl; have ce_8 := (blk_cell BE.out 8).trans rfl; have ce_9 := (blk_cell BE.out 9).trans rfl; have ce_10 := (blk_cell BE.out 10).trans rfl; have ce_11 := (blk_cell BE.out 11).trans rfl)
        clear ce_0 ce_1 ce_2 ce_3 ce_4 ce_5 ce_6 ce_7 ce_8 ce_9 ce_10 ce_11 BE
        go_roundg (l.length - (kk + 1))
        case measure => omega
        case rel => exact ⟨kk + 1, min (cur + 1) 1073741824, by omega, by omega, by go_num, by first | rfl | go_num | (rw [hwb]), HB, ⟨by have := HNB.out; omega⟩, HS1⟩
      · have hltz : ¬ (kk : Int) < (l.length : Int) := by omega
        obtain rfl : kk = l.length := by omega
        have HE := Aside0.mk (show cur = costL true fs 0 l by have h := HS.out; rw [List.drop_length, costL] at h; exact h)
        go_wp2
        go_ret
        exact ⟨by rw [← HE.out]; rfl, HB.out⟩

set_option maxHeartbeats 8000000 in
theorem rcostLeast_calls : ∀ (l : List FS), Small l → RCostSays false l := by
  intro l hl
  induction hl with
  | mk l h1 h2 h3 ih =>
    intro fs w A c F cF hC hF hO hb
    show Calls Tryz.prog 65 #[.slice A l.length c, .slice F fs.length cF, .bool true] w _
    have hmax : l.length ≤ 9223372036854775807 := hC.2.1
    have HI := Aside0.mk ih
    have HC := Aside0.mk hC
    have HF := Aside0.mk hF
    have HO := Aside0.mk hO
    have HBD := Aside0.mk hb
    have HAR := Aside0.mk h2
    have HSU := Aside0.mk h3
    clear h1 h2 h3 ih hC hF hO hb
    go_enter Tryz.func65, Tryz.ntmps65
    go_wp2
    go_loopg [7, 8] l.length (fun gg s7 s8 wr => ∃ (kk : Nat) (cur : Int), kk ≤ l.length ∧ l.length - kk ≤ gg ∧ s8 = .int .i64 kk ∧ s7 = .int .i64 cur ∧ Aside0 (Below w.heap.size w wr) ∧ Aside0 (0 ≤ cur ∧ cur ≤ 1073741824) ∧ Aside0 (costL false fs cur (l.drop kk) = costL false fs 0 l))
    case atStart => exact ⟨0, 0, Nat.zero_le _, by omega, rfl, rfl, ⟨Below.refl _ _⟩, ⟨by omega⟩, ⟨rfl⟩⟩
    case round =>
      obtain ⟨kk, cur, hkk, hg, rfl, rfl, HB, HR, HS⟩ := hrel
      by_cases hlt : kk < l.length
      · have hltz : (kk : Int) < (l.length : Int) := by omega
        have hk0 : (0 : Int) ≤ (kk : Int) := by omega
        have HM := Aside0.mk (getD_mem hlt zFS)
        have HS1 := Aside0.mk (show costL false fs (costS false fs cur (l.getD kk zFS)) (l.drop (kk + 1)) = costL false fs 0 l by rw [← HS.out, drop_getD l kk hlt zFS, costL])
        clear HS
        obtain ⟨ead, ecs, rfl, _, eK, ecc⟩ := Kd.C_get HC.out zFS (kk : Int) (by omega) (by omega)
        have eK' := eK
        obtain ⟨eA4, ec4, eA8, ec8, eA9, ec9, eA6, ec6, eA7, ec7, rfl, el4, eg4, el8, eg8, el9, eg9, el6, eg6, el7, eg7⟩ := kFS_openV eK'
        have ex0 := (HB.out.cell (World.block_lt_of_cell? w _ (ecc 0 _ rfl))).trans (ecc 0 _ rfl)
        have ex1 := (HB.out.cell (World.block_lt_of_cell? w _ (ecc 1 _ rfl))).trans (ecc 1 _ rfl)
        have ex2 := (HB.out.cell (World.block_lt_of_cell? w _ (ecc 2 _ rfl))).trans (ecc 2 _ rfl)
        have ex3 := (HB.out.cell (World.block_lt_of_cell? w _ (ecc 3 _ rfl))).trans (ecc 3 _ rfl)
        have ex4 := (HB.out.cell (World.block_lt_of_cell? w _ (ecc 4 _ rfl))).trans (ecc 4 _ rfl)
        have ex5 := (HB.out.cell (World.block_lt_of_cell? w _ (ecc 5 _ rfl))).trans (ecc 5 _ rfl)
        have ex6 := (HB.out.cell (World.block_lt_of_cell? w _ (ecc 6 _ rfl))).trans (ecc 6 _ rfl)
        have ex7 := (HB.out.cell (World.block_lt_of_cell? w _ (ecc 7 _ rfl))).trans (ecc 7 _ rfl)
        have ex8 := (HB.out.cell (World.block_lt_of_cell? w _ (ecc 8 _ rfl))).trans (ecc 8 _ rfl)
        have ex9 := (HB.out.cell (World.block_lt_of_cell? w _ (ecc 9 _ rfl))).trans (ecc 9 _ rfl)
        have ex10 := (HB.out.cell (World.block_lt_of_cell? w _ (ecc 10 _ rfl))).trans (ecc 10 _ rfl)
        have ex11 := (HB.out.cell (World.block_lt_of_cell? w _ (ecc 11 _ rfl))).trans (ecc 11 _ rfl)
        rw [show (kFS).sz = 12 from rfl, Nat.add_zero, Int.toNat_natCast] at ex0
        rw [show (kFS).sz = 12 from rfl, Int.toNat_natCast, add_field _ _ 1 (by omega)] at ex1
        rw [show (kFS).sz = 12 from rfl, Int.toNat_natCast, add_field _ _ 2 (by omega)] at ex2
        rw [show (kFS).sz = 12 from rfl, Int.toNat_natCast, add_field _ _ 3 (by omega)] at ex3
        rw [show (kFS).sz = 12 from rfl, Int.toNat_natCast, add_field _ _ 4 (by omega)] at ex4
        rw [show (kFS).sz = 12 from rfl, Int.toNat_natCast, add_field _ _ 5 (by omega)] at ex5
        rw [show (kFS).sz = 12 from rfl, Int.toNat_natCast, add_field _ _ 6 (by omega)] at ex6
        rw [show (kFS).sz = 12 from rfl, Int.toNat_natCast, add_field _ _ 7 (by omega)] at ex7
        rw [show (kFS).sz = 12 from rfl, Int.toNat_natCast, add_field _ _ 8 (by omega)] at ex8
        rw [show (kFS).sz = 12 from rfl, Int.toNat_natCast, add_field _ _ 9 (by omega)] at ex9
        rw [show (kFS).sz = 12 from rfl, Int.toNat_natCast, add_field _ _ 10 (by omega)] at ex10
        rw [show (kFS).sz = 12 from rfl, Int.toNat_natCast, add_field _ _ 11 (by omega)] at ex11
        clear ecc
        try simp only [Int.toNat_natCast] at ex0 ex1 ex2 ex3 ex4 ex5 ex6 ex7 ex8 ex9 ex10 ex11 eK el4 eg4 el8 eg8 el9 eg9 el6 eg6 el7 eg7
        generalize Ys0 : l.getD kk zFS = s at ex0 ex1 ex2 ex3 ex4 ex5 ex6 ex7 ex8 ex9 ex10 ex11 eK el4 eg4 el8 eg8 el9 eg9 el6 eg6 el7 eg7
        have Ys := Aside0.mk Ys0; clear Ys0
        rw [Ys.out] at HS1 HM
        have eL4 := Aside0.mk el4; have eG4 := Aside0.mk eg4; clear el4 eg4
        have eL8 := Aside0.mk el8; have eG8 := Aside0.mk eg8; clear el8 eg8
        have eL9 := Aside0.mk el9; have eG9 := Aside0.mk eg9; clear el9 eg9
        have eL6 := Aside0.mk el6; have eG6 := Aside0.mk eg6; clear el6 eg6
        have eL7 := Aside0.mk el7; have eG7 := Aside0.mk eg7; clear el7 eg7
        clear eK
        have HBS := Aside0.mk (badL_mem HBD.out HM.out)
        have HAL := Aside0.mk (HAR.out s HM.out)
        have HSB := Aside0.mk (HSU.out s HM.out)
        have HIS := Aside0.mk (HI.out s HM.out)
        by_cases h3 : s.op = 3
        · have y3 : (s.op == (3 : Int)) = true := by rw [h3]; rfl
          have y5 : (s.op == (5 : Int)) = false := by rw [h3]; rfl
          have hfn := badS_fn HBS.out h3
          have HN := Aside0.mk (show costS false fs cur s = min (cur + 1 + rd0 fs s.fn) 1073741824 by rw [costS_eq, if_pos h3])
          have HNB := Aside0.mk (show 0 ≤ cur + 1 + rd0 fs s.fn ∧ cur + 1 + rd0 fs s.fn ≤ 4294967296 by have := HR.out; have := rd0_ok HO.out s.fn; omega)
          have HTB := Aside0.mk (rd0_ok HO.out s.fn)
          rw [HN.out] at HS1
          clear h3
          have hf0 := hfn.1
          have hf1 := hfn.2
          clear hfn
          obtain ⟨tad, tcs, rfl, _, tK, tcc⟩ := Kd.C_get HF.out (0 : Int) s.fn (by omega) (by omega)
          obtain rfl := tK
          have tx0 := ((Below.refl w.heap.size w).cell (World.block_lt_of_cell? w _ (tcc 0 _ rfl))).trans (tcc 0 _ rfl)
          simp only [show (Kd.int .i64).sz = 1 from rfl, Nat.mul_one, Nat.add_zero] at tx0
          clear tcc
          generalize Yt0 : fs.getD s.fn.toNat (0 : Int) = t at tx0
          have Yt := Aside0.mk Yt0; clear Yt0
          have Yt2 := Aside0.mk (show rd0 fs s.fn = t from Yt.out)
          rw [Yt2.out] at HS1 HNB HTB
          have hwa : wrap64 (1 + t) = 1 + t := by have := HTB.out; unfold wrap64; omega
          have hwb : wrap64 (cur + (1 + t)) = cur + 1 + t := by have := HNB.out; unfold wrap64; omega
          go_wp2_with ((with_reducible refine gate_store (t := 41) (p := 10) rfl ?_); refine store_whole rfl rfl 41 _ _ rfl wr.heap.size _ 41 rfl (blk_new _ _) _ rfl rfl rfl (by simp [Value.oneCell']) ?_; intro w2 hb2 hg2; replace HB := Aside0.mk (below_as HB.out hg2); obtain ⟨ge, hq_⟩ : ∃ g_, g_ = wr.heap.size := ⟨_, rfl⟩; rw [← hq_] at hb2; rw [← hq_]; have BE := Aside0.mk hb2; clear hb2 hg2 hq_; have ty := (HB.out.cell (World.block_lt_of_cell? w _ tx0)).trans tx0; have ce_0 := (blk_cell BE.out 0).trans rfl; have ce_1 := (blk_cell BE.out 1).trans rfl; have ce_2 := (blk_cell BE.out 2).trans rfl; have ce_3 := (blk_cell BE.out 3).trans rfl; have ce_4 := (blk_cell BE.out 4).trans rfl; have ce_5 := (blk_cell BE.out 5).trans rfl; have ce_6 := (blk_cell BE.out 6).trans rfl; have ce_7 := (blk_cell BE.out 7).trans rfl; have ce_8 := (blk_cell BE.out 8).trans rfl; have ce_9 := (blk_cell BE.out 9).trans rfl; have ce_10 := (blk_cell BE.out 10).trans rfl; have ce_11 := (blk_cell BE.out 11).trans rfl)
          clear ce_0 ce_1 ce_2 ce_3 ce_4 ce_5 ce_6 ce_7 ce_8 ce_9 ce_10 ce_11 ty tx0 BE
          go_roundg (l.length - (kk + 1))
          case measure => omega
          case rel => exact ⟨kk + 1, min (cur + 1 + t) 1073741824, by omega, by omega, by go_num, by first | rfl | go_num | (rw [hwb]), HB, ⟨by have := HNB.out; omega⟩, HS1⟩
        have y3 : (s.op == (3 : Int)) = false := beq_eq_false_iff_ne.2 h3
        by_cases h5 : s.op = 5
        · have y5 : (s.op == (5 : Int)) = true := by rw [h5]; rfl
          have HN := Aside0.mk (show costS false fs cur s = min (cur + 1 + armsL false (s.arms.map (fun a => costL false fs 0 a.2))) 1073741824 by rw [costS_eq, if_neg h3, if_pos h5])
          clear h3 h5
          by_cases hae : s.arms.length = 0
          · have hz : decide (0 < s.arms.length) = false := decide_eq_false (by omega)
            have hnil : s.arms = [] := List.eq_nil_of_length_eq_zero hae
            have HN2 := Aside0.mk (show costS false fs cur s = min (cur + 1) 1073741824 by rw [HN.out, hnil]; simp [armsL])
            have HNB := Aside0.mk (show 0 ≤ cur + 1 ∧ cur + 1 ≤ 4294967296 by have := HR.out; omega)
            rw [HN2.out] at HS1
            clear hae hnil HN
            have hwb : wrap64 (cur + 1) = cur + 1 := by have := HNB.out; unfold wrap64; omega
            go_wp2_with ((with_reducible refine gate_store (t := 41) (p := 10) rfl ?_); refine store_whole rfl rfl 41 _ _ rfl wr.heap.size _ 41 rfl (blk_new _ _) _ rfl rfl rfl (by simp [Value.oneCell']) ?_; intro w2 hb2 hg2; replace HB := Aside0.mk (below_as HB.out hg2); obtain ⟨ge, hq_⟩ : ∃ g_, g_ = wr.heap.size := ⟨_, rfl⟩; rw [← hq_] at hb2; rw [← hq_]; have BE := Aside0.mk hb2; clear hb2 hg2 hq_; have ce_0 := (blk_cell BE.out 0).trans rfl; have ce_1 := (blk_cell BE.out 1).trans rfl; have ce_2 := (blk_cell BE.out 2).trans rfl; have ce_3 := (blk_cell BE.out 3).trans rfl; have ce_4 := (blk_cell BE.out 4).trans rfl; have ce_5 := (blk_cell BE.out 5).trans rfl; have ce_6 := (blk_cell BE.out 6).trans rfl; have ce_7 := (blk_cell BE.out 7).trans rfl; have ce_8 := (blk_cell BE.out 8).trans rfl; have ce_9 := (blk_cell BE.out 9).trans rfl; have ce_10 := (blk_cell BE.out 10).trans rfl; have ce_11 := (blk_cell BE.out 11).trans rfl)
            clear ce_0 ce_1 ce_2 ce_3 ce_4 ce_5 ce_6 ce_7 ce_8 ce_9 ce_10 ce_11 BE
            go_roundg (l.length - (kk + 1))
            case measure => omega
            case rel => exact ⟨kk + 1, min (cur + 1) 1073741824, by omega, by omega, by go_num, by first | rfl | go_num | (rw [hwb]), HB, ⟨by have := HNB.out; omega⟩, HS1⟩
          have hz : decide (0 < s.arms.length) = true := decide_eq_true (by omega)
          have hz0 : (0 : Int) < (s.arms.length : Int) := by omega
          have haml : s.arms.length ≤ 8796093022208 := HAL.out
          have HALL := Aside0.mk (show ∀ a ∈ s.arms, 0 ≤ costL false fs 0 a.2 ∧ costL false fs 0 a.2 ≤ 1073741824 from fun a ha => costL_ok HO.out (HSB.out a ha) 0 (by omega) (by omega))
          have HPOS := Aside0.mk (show 0 < s.arms.length by omega)
          clear hae
          have HMa0 := Aside0.mk (getD_mem HPOS.out zFA)
          obtain ⟨fad, fcs, rfl, _, fK, fcc⟩ := Kd.C_get eG7.out zFA (0 : Int) (by omega) hz0
          have fK' := fK
          obtain ⟨fA1, fc1, rfl, fl1, fg1⟩ := kFA_open fK'
          have fx1 : w.cell? ⟨fad.block, fad.off + 1, none⟩ = some (.slice fA1 (s.arms.getD 0 zFA).2.length fc1) := by have h := fcc 1 _ rfl; rw [show (Int.toNat 0 * kFA.sz + 1) = 0 + 1 from rfl, add_field _ _ 1 (by omega), Addr.add_zero'] at h; exact h
          rw [show (0 : Int).toNat = 0 from rfl] at fl1 fg1
          clear fcc fK fK'
          generalize Ya00 : s.arms.getD 0 zFA = a0 at fx1 fl1 fg1 HMa0
          have Ya0 := Aside0.mk Ya00; clear Ya00
          have fL1 := Aside0.mk fl1; have fG1 := Aside0.mk fg1; clear fl1 fg1
          have hcall_a0 := fun (W : World) (hB : Below w.heap.size w W) => HIS.out a0 HMa0.out fs W fA1 fc1 F cF (Kd.C_below fG1.out hB) (Kd.C_below HF.out hB) HO.out (badS_arm HBS.out HMa0.out)
          have HCB_a0 := Aside0.mk (HALL.out a0 HMa0.out)
          skip
          have HFST := Aside0.mk (show s.arms.map (fun a => costL false fs 0 a.2) = costL false fs 0 a0.2 :: (s.arms.drop 1).map (fun a => costL false fs 0 a.2) by have h := drop_getD s.arms 0 HPOS.out zFA; rw [List.drop_zero, Ya0.out] at h; rw [h]; simp)
          go_wp2_with ((with_reducible refine gate_store (t := 41) (p := 10) rfl ?_); refine store_whole rfl rfl 41 _ _ rfl wr.heap.size _ 41 rfl (blk_new _ _) _ rfl rfl rfl (by simp [Value.oneCell']) ?_; intro w2 hb2 hg2; replace HB := Aside0.mk (below_as HB.out hg2); obtain ⟨ge, hq_⟩ : ∃ g_, g_ = wr.heap.size := ⟨_, rfl⟩; rw [← hq_] at hb2; rw [← hq_]; have BE := Aside0.mk hb2; clear hb2 hg2 hq_; have fy1 := (HB.out.cell (World.block_lt_of_cell? w _ fx1)).trans fx1; have ce_0 := (blk_cell BE.out 0).trans rfl; have ce_1 := (blk_cell BE.out 1).trans rfl; have ce_2 := (blk_cell BE.out 2).trans rfl; have ce_3 := (blk_cell BE.out 3).trans rfl; have ce_4 := (blk_cell BE.out 4).trans rfl; have ce_5 := (blk_cell BE.out 5).trans rfl; have ce_6 := (blk_cell BE.out 6).trans rfl; have ce_7 := (blk_cell BE.out 7).trans rfl; have ce_8 := (blk_cell BE.out 8).trans rfl; have ce_9 := (blk_cell BE.out 9).trans rfl; have ce_10 := (blk_cell BE.out 10).trans rfl; have ce_11 := (blk_cell BE.out 11).trans rfl)
          refine (hcall_a0 _ HB.out).mono ?_
          rintro e w7 ⟨rfl, hb⟩
          replace BE := Aside0.mk (below_blk BE.out hb)
          replace HB := Aside0.mk (below_step HB.out hb)
          clear hb hcall_a0 fy1 ce_0 ce_1 ce_2 ce_3 ce_4 ce_5 ce_6 ce_7 ce_8 ce_9 ce_10 ce_11
          obtain ⟨b0, hb0⟩ : ∃ b0, costL false fs 0 a0.2 = b0 := ⟨_, rfl⟩
          rw [hb0] at HFST HCB_a0 ⊢
          clear hb0
          go_wp2_with fail
          go_loopg [11, 12] s.arms.length (fun gg s11 s12 wr => ∃ (jj : Nat) (best : Int), 1 ≤ jj ∧ jj ≤ s.arms.length ∧ s.arms.length - jj ≤ gg ∧ s12 = .int .i64 jj ∧ s11 = .int .i64 best ∧ Aside0 (Below w.heap.size w wr) ∧ Aside0 (wr.heap[ge]? = some (.cells #[.int .i64 s.op, .string s.name, .int .i64 s.pos, .int .i64 s.fn, .slice eA4 (s.names).length ec4, .int .i64 s.e.f0, .string s.e.f1, .int .i64 s.e.f2, .slice eA8 (s.e.f3).length ec8, .slice eA9 (s.e.f4).length ec9, .slice eA6 (s.args).length ec6, .slice (some fad) (s.arms).length ec7] 41 (0, 0))) ∧ Aside0 (0 ≤ best ∧ best ≤ 1073741824) ∧ Aside0 True)
          case atStart => exact ⟨1, b0, Nat.le_refl _, by have := HPOS.out; omega, by omega, rfl, rfl, HB, BE, HCB_a0, ⟨trivial⟩⟩
          case round =>
            clear HB BE
            obtain ⟨jj, best, hj1, hjj, hgj, rfl, rfl, HB, BE, HBB, HGR⟩ := hrel
            have ce_7 := (blk_cell BE.out 11).trans rfl
            by_cases hltj : jj < s.arms.length
            · have hltzj : (jj : Int) < (s.arms.length : Int) := by omega
              have hj0 : (0 : Int) ≤ (jj : Int) := by omega
              have HMa := Aside0.mk (getD_mem (show jj < s.arms.length by omega) zFA)
              obtain ⟨had, hcs, heq_, _, hK, hcc⟩ := Kd.C_get eG7.out zFA (jj : Int) (by omega) (by omega)
              injection heq_ with heq_
              subst heq_
              have hK' := hK
              obtain ⟨hA1, hc1, rfl, hl1, hg1⟩ := kFA_open hK'
              have hx0 := ((Below.refl w.heap.size w).cell (World.block_lt_of_cell? w _ (hcc 0 _ rfl))).trans (hcc 0 _ rfl)
              have hx1 := ((Below.refl w.heap.size w).cell (World.block_lt_of_cell? w _ (hcc 1 _ rfl))).trans (hcc 1 _ rfl)
              rw [show (kFA).sz = 2 from rfl, Nat.add_zero, Int.toNat_natCast] at hx0
              rw [show (kFA).sz = 2 from rfl, Int.toNat_natCast, add_field _ _ 1 (by omega)] at hx1
              clear hcc
              try simp only [Int.toNat_natCast] at hx0 hx1 hK hl1 hg1
              generalize Ya0 : s.arms.getD jj zFA = a at hx0 hx1 hK hl1 hg1
              have Ya := Aside0.mk Ya0; clear Ya0
              rw [Ya.out] at HMa
              have hL1 := Aside0.mk hl1; have hG1 := Aside0.mk hg1; clear hl1 hg1
              clear hK
              have hcall_a := fun (W : World) (hB : Below w.heap.size w W) => HIS.out a HMa.out fs W hA1 hc1 F cF (Kd.C_below hG1.out hB) (Kd.C_below HF.out hB) HO.out (badS_arm HBS.out HMa.out)
              have HCB_a := Aside0.mk (HALL.out a HMa.out)
              have hy1 := (HB.out.cell (World.block_lt_of_cell? w _ hx1)).trans hx1
              go_wp2_with fail
              refine (hcall_a _ HB.out).mono ?_
              rintro e w8 ⟨rfl, hb⟩
              replace BE := Aside0.mk (below_blk BE.out hb)
              replace HB := Aside0.mk (below_step HB.out hb)
              clear hb hcall_a hy1 ce_7
              obtain ⟨r, hr⟩ : ∃ r, costL false fs 0 a.2 = r := ⟨_, rfl⟩
              rw [hr] at HCB_a ⊢
              clear hr
              go_wp2_with fail
              go_roundg (s.arms.length - (jj + 1))
              case measure => omega
              case rel => exact ⟨jj + 1, min best r, by omega, by omega, by omega, by go_num, by first | rfl | go_num, HB, BE, ⟨by have := HBB.out; have := HCB_a.out; omega⟩, ⟨trivial⟩⟩
            · have hltzj : ¬ (jj : Int) < (s.arms.length : Int) := by omega
              have HAE := Aside0.mk (show min (cur + 1 + armsL false (s.arms.map (fun a => costL false fs 0 a.2))) 1073741824 = min (cur + 1) 1073741824 by unfold armsL; simp)
              rw [HN.out, HAE.out] at HS1
              have HNB := Aside0.mk (show 0 ≤ cur + 1 ∧ cur + 1 ≤ 4294967296 by have := HR.out; omega)
              have hwb : wrap64 (cur + 1) = cur + 1 := by have := HNB.out; unfold wrap64; omega
              clear HGR HFST HN hgj hjj hltj hj1
              go_wp2_with fail
              clear ce_7
              go_roundg (l.length - (kk + 1))
              case measure => omega
              case rel => exact ⟨kk + 1, min (cur + 1) 1073741824, by omega, by omega, by go_num, by first | rfl | go_num | (rw [hwb]), HB, ⟨by have := HNB.out; omega⟩, HS1⟩
        have y5 : (s.op == (5 : Int)) = false := beq_eq_false_iff_ne.2 h5
        have HN := Aside0.mk (show costS false fs cur s = min (cur + 1) 1073741824 by rw [costS_eq, if_neg h3, if_neg h5])
        have HNB := Aside0.mk (show 0 ≤ cur + 1 ∧ cur + 1 ≤ 4294967296 by have := HR.out; omega)
        rw [HN.out] at HS1
        clear h3 h5
        have hwb : wrap64 (cur + 1) = cur + 1 := by have := HNB.out; unfold wrap64; omega
        go_wp2_with ((with_reducible refine gate_store (t := 41) (p := 10) rfl ?_); refine store_whole rfl rfl 41 _ _ rfl wr.heap.size _ 41 rfl (blk_new _ _) _ rfl rfl rfl (by simp [Value.oneCell']) ?_; intro w2 hb2 hg2; replace HB := Aside0.mk (below_as HB.out hg2); obtain ⟨ge, hq_⟩ : ∃ g_, g_ = wr.heap.size := ⟨_, rfl⟩; rw [← hq_] at hb2; rw [← hq_]; have BE := Aside0.mk hb2; clear hb2 hg2 hq_; have ce_0 := (blk_cell BE.out 0).trans rfl; have ce_1 := (blk_cell BE.out 1).trans rfl; have ce_2 := (blk_cell BE.out 2).trans rfl; have ce_3 := (blk_cell BE.out 3).trans rfl; have ce_4 := (blk_cell BE.out 4).trans rfl; have ce_5 := (blk_cell BE.out 5).trans rfl; have ce_6 := (blk_cell BE.out 6).trans rfl; have ce_7 := (blk_cell BE.out 7).trans rfl; have ce_8 := (blk_cell BE.out 8).trans rfl; have ce_9 := (blk_cell BE.out 9).trans rfl; have ce_10 := (blk_cell BE.out 10).trans rfl; have ce_11 := (blk_cell BE.out 11).trans rfl)
        clear ce_0 ce_1 ce_2 ce_3 ce_4 ce_5 ce_6 ce_7 ce_8 ce_9 ce_10 ce_11 BE
        go_roundg (l.length - (kk + 1))
        case measure => omega
        case rel => exact ⟨kk + 1, min (cur + 1) 1073741824, by omega, by omega, by go_num, by first | rfl | go_num | (rw [hwb]), HB, ⟨by have := HNB.out; omega⟩, HS1⟩
      · have hltz : ¬ (kk : Int) < (l.length : Int) := by omega
        obtain rfl : kk = l.length := by omega
        have HE := Aside0.mk (show cur = costL false fs 0 l by have h := HS.out; rw [List.drop_length, costL] at h; exact h)
        go_wp2
        go_ret
        exact ⟨by rw [← HE.out]; rfl, HB.out⟩

theorem rcost_calls (mx : Bool) (l : List FS) (hl : Small l) : RCostSays mx l := by
  cases mx
  · exact rcostLeast_calls l hl
  · exact rcostMost_calls l hl
set_option maxHeartbeats 8000000 in
theorem rall_calls (mx : Bool) (l : List FF) (hl : FlatSmall l) (w : World) (A : Option Addr) (c : Nat) (hC : kFF.C w A l.length l) :
    Calls Tryz.prog 43 #[.agg #[.slice A l.length c], .bool (!mx)] w fun e w' => e = .returned (.tuple #[.int .i64 (costV mx l), .int .i64 (errV l)]) ∧ Below w.heap.size w w' := by
  have hmax := hl.len
  have hrr := fun (W : World) (hB : Below w.heap.size w W) => rright_calls l hl W A c (Kd.C_below hC hB)
  have HC := Aside0.mk hC
  have HSM := Aside0.mk hl.body
  have HU := Aside0.mk Tryz.underlying32
  clear hl hC
  cases hok : flatOk l with
  | false =>
    have HV := Aside0.mk (show costV mx l = 0 ∧ errV l = 10 by unfold costV errV; rw [hok]; exact ⟨rfl, rfl⟩)
    rw [hok] at hrr
    rw [HV.out.1, HV.out.2]
    clear hok HV
    generalize (!mx) = ls
    go_enter Tryz.func43, Tryz.ntmps43
    go_wp2_with fail
    refine (hrr _ (below_alloc (Below.refl _ w) _)).mono ?_
    rintro e w1 ⟨rfl, hb⟩
    have HB := Aside0.mk (below_step (below_alloc (Below.refl _ w) _) hb)
    clear hb hrr
    go_wp2_with fail
    go_ret2
    exact ⟨rfl, HB.out⟩
  | true =>
    have hpos := flat_pos hok
    have HV := Aside0.mk (show costV mx l = lastCost mx l ∧ errV l = 0 by unfold costV errV; rw [hok]; exact ⟨rfl, rfl⟩)
    rw [hok] at hrr
    rw [HV.out.1, HV.out.2]
    have HOK := Aside0.mk hok
    clear hok HV
    obtain ⟨AN, hAN⟩ : ∃ AN, lastCost mx l = AN := ⟨_, rfl⟩
    rw [hAN]
    have HAN := Aside0.mk hAN
    clear hAN
    have HRC := Aside0.mk (rcost_calls mx)
    unfold RCostSays at HRC
    obtain ⟨ls, hls⟩ : ∃ ls, (!mx) = ls := ⟨_, rfl⟩
    rw [hls] at HRC ⊢
    clear hls
    go_enter Tryz.func43, Tryz.ntmps43
    go_wp2_with fail
    refine (hrr _ (below_alloc (Below.refl _ w) _)).mono ?_
    rintro e w1 ⟨rfl, hb⟩
    have HB := Aside0.mk (below_step (below_alloc (Below.refl _ w) _) hb)
    have BX := Aside0.mk (below_blk (blk_new w (.cells #[.slice A l.length c] 24 (0, 0))) hb)
    clear hb hrr
    obtain ⟨gx, hgx⟩ : ∃ gx, w.heap.size = gx := ⟨_, rfl⟩
    rw [hgx] at BX
    go_wp2_with fail
    have LX := Aside0.mk (show w.heap.size ≤ gx by omega)
    clear hgx
    have HR0 := Aside0.mk (Kd.R_nil (Kd.int .i64) 3 w1 w.heap.size (fun _ => True))
    go_loopg [6, 7] l.length (fun gg s6 s7 wr => ∃ (kk : Nat) (fs : List Int) (v : Value), kk ≤ l.length ∧ l.length - kk ≤ gg ∧ s7 = .int .i64 kk ∧ s6 = v ∧ Aside0 (Below w.heap.size w wr) ∧ Aside0 (wr.heap[gx]? = some (.cells #[.slice A l.length c] 24 (0, 0))) ∧ Aside0 ((Kd.int .i64).R 3 wr w.heap.size (fun _ => True) v fs) ∧ Aside0 (fs.length = kk ∧ FsOk fs ∧ costsFrom mx fs (l.drop kk) = costsFrom mx [] l))
    case atStart => exact ⟨0, [], _, Nat.zero_le _, by omega, rfl, rfl, HB, BX, HR0, ⟨rfl, fun c hc => by simp at hc, rfl⟩⟩
    case round =>
      clear HB BX HR0
      obtain ⟨kk, fs, v, hkk, hg, rfl, rfl, HB, BX, HRV, HA⟩ := hrel
      obtain ⟨Av, cv, rfl⟩ := Kd.R_slice HRV.out
      have x0 := (blk_cell BX.out 0).trans rfl
      by_cases hlt : kk < l.length
      · have hltz : (kk : Int) < (l.length : Int) := by omega
        have hk0 : (0 : Int) ≤ (kk : Int) := by omega
        have HM := Aside0.mk (getD_mem hlt zFF)
        have HFO := Aside0.mk (FunOk.of (funOk HOK.out hlt))
        have HDR := Aside0.mk (drop_getD l kk hlt zFF)
        obtain ⟨ead, ecs, rfl, _, eK, ecc⟩ := Kd.C_get HC.out zFF (kk : Int) (by omega) (by omega)
        have eK' := eK
        obtain ⟨eA0, ec0, eA1, ec1, eA3, ec3, eA4, ec4, eA5, ec5, rfl, el0, eg0, el1, eg1, el3, eg3, el4, eg4, el5, eg5⟩ := kFF_open6 eK'
        have ex0 := ((Below.refl w.heap.size w).cell (World.block_lt_of_cell? w _ (ecc 0 _ rfl))).trans (ecc 0 _ rfl)
        have ex1 := ((Below.refl w.heap.size w).cell (World.block_lt_of_cell? w _ (ecc 1 _ rfl))).trans (ecc 1 _ rfl)
        have ex2 := ((Below.refl w.heap.size w).cell (World.block_lt_of_cell? w _ (ecc 2 _ rfl))).trans (ecc 2 _ rfl)
        have ex3 := ((Below.refl w.heap.size w).cell (World.block_lt_of_cell? w _ (ecc 3 _ rfl))).trans (ecc 3 _ rfl)
        have ex4 := ((Below.refl w.heap.size w).cell (World.block_lt_of_cell? w _ (ecc 4 _ rfl))).trans (ecc 4 _ rfl)
        have ex5 := ((Below.refl w.heap.size w).cell (World.block_lt_of_cell? w _ (ecc 5 _ rfl))).trans (ecc 5 _ rfl)
        rw [show (kFF).sz = 6 from rfl, Nat.add_zero, Int.toNat_natCast] at ex0
        rw [show (kFF).sz = 6 from rfl, Int.toNat_natCast, add_field _ _ 1 (by omega)] at ex1
        rw [show (kFF).sz = 6 from rfl, Int.toNat_natCast, add_field _ _ 2 (by omega)] at ex2
        rw [show (kFF).sz = 6 from rfl, Int.toNat_natCast, add_field _ _ 3 (by omega)] at ex3
        rw [show (kFF).sz = 6 from rfl, Int.toNat_natCast, add_field _ _ 4 (by omega)] at ex4
        rw [show (kFF).sz = 6 from rfl, Int.toNat_natCast, add_field _ _ 5 (by omega)] at ex5
        clear ecc
        try simp only [Int.toNat_natCast] at ex0 ex1 ex2 ex3 ex4 ex5 eK el0 eg0 el1 eg1 el3 eg3 el4 eg4 el5 eg5
        generalize Yx0 : l.getD kk zFF = x at ex0 ex1 ex2 ex3 ex4 ex5 eK el0 eg0 el1 eg1 el3 eg3 el4 eg4 el5 eg5
        have Yx := Aside0.mk Yx0; clear Yx0
        rw [Yx.out] at HM HFO HDR
        have eL0 := Aside0.mk el0; have eG0 := Aside0.mk eg0; clear el0 eg0
        have eL1 := Aside0.mk el1; have eG1 := Aside0.mk eg1; clear el1 eg1
        have eL3 := Aside0.mk el3; have eG3 := Aside0.mk eg3; clear el3 eg3
        have eL4 := Aside0.mk el4; have eG4 := Aside0.mk eg4; clear el4 eg4
        have eL5 := Aside0.mk el5; have eG5 := Aside0.mk eg5; clear el5 eg5
        clear eK
        have HSB := Aside0.mk (HSM.out x HM.out)
        have HCO := Aside0.mk (show 0 ≤ costL mx fs 0 x.body ∧ costL mx fs 0 x.body ≤ 1073741824 from costL_ok HA.out.2.1 HSB.out 0 (by omega) (by omega))
        have hcost := fun (W : World) (hB : Below w.heap.size w W) (hr : (Kd.int .i64).R 3 W w.heap.size (fun _ => True) (.slice Av fs.length cv) fs) => HRC.out x.body HSB.out fs W eA5 ec5 Av cv (Kd.C_below eG5.out hB) (Kd.R_reads' hr).2.2 HA.out.2.1 (by rw [HA.out.1]; exact HFO.out.body)
        obtain ⟨r, hr⟩ : ∃ r, costL mx fs 0 x.body = r := ⟨_, rfl⟩
        rw [hr] at hcost HCO
        have HRE := Aside0.mk hr
        clear hr
        have ey5 := (HB.out.cell (World.block_lt_of_cell? w _ ex5)).trans ex5
        go_wp2_with fail
        refine (hcost _ HB.out HRV.out).mono ?_
        rintro e w3 ⟨rfl, hb⟩
        replace BX := Aside0.mk (below_blk BX.out hb)
        replace HRV := Aside0.mk (Kd.R_below HRV.out hb)
        replace HB := Aside0.mk (below_step HB.out hb)
        clear hb hcost ey5 x0
        go_wp2_with (at_builtin; refine Kd.R_append (Kd.int .i64) (w0 := w) w.heap.size rfl (.tmp 28) (.tmp 30) 32 3 (.int .i64 0) 8 rfl HU.out info_int rfl (by decide) (by omega) (.slice Av fs.length cv) fs r [.int .i64 r] (fun _ => True) (fun _ => False) rfl rfl (show (Kd.int .i64).M _ _ _ r [.int .i64 r] from rfl) (fun k hk => hk.elim) (fun _ _ => trivial) HRV.out HB.out HB.out.size (by have := HA.out.1; omega) ?_; intro v1 w6 hr6 hb6 hg6 hat6; have HR6 := Aside0.mk hr6; have HB6 := Aside0.mk hb6; have BX6 := Aside0.mk ((hg6.block gx (blk_lt BX.out) (fun e => by obtain ⟨cs6, h6⟩ := R_typed HRV.out _ e.symm; rw [BX.out] at h6; cases h6)).trans BX.out); clear hr6 hb6 hg6 hat6 HRV HB BX)
        go_roundg (l.length - (kk + 1))
        case measure => omega
        case rel => exact ⟨kk + 1, fs ++ [r], v1, by omega, by omega, by go_num, rfl, HB6, BX6, HR6, ⟨by simp [HA.out.1], fsOk_snoc HA.out.2.1 HCO.out, by rw [← HA.out.2.2, HDR.out, costsFrom, HRE.out]⟩⟩
      · have hltz : ¬ (kk : Int) < (l.length : Int) := by omega
        obtain rfl : kk = l.length := by omega
        obtain ⟨v, hv⟩ : ∃ v : Int, ((l.length - 1 : Nat) : Int) = v := ⟨_, rfl⟩
        have hv0 : 0 ≤ v := by omega
        have hlf : fs.length = l.length := HA.out.1
        have hv1 : v < (fs.length : Int) := by omega
        have hw1 : wrap64 ((fs.length : Int) - 1) = v := by unfold wrap64; omega
        have hw2 : IntKind.i64.wrap ((fs.length : Int) - 1) = v := by rw [wrapEq]; exact hw1
        have hce : costsFrom mx [] l = fs := by rw [← HA.out.2.2, List.drop_length]; rfl
        have HE := Aside0.mk (show AN = fs.getD v.toNat (0 : Int) by
          rw [← HAN.out]
          unfold lastCost
          rw [hce, last_rd0 (m := l.length - 1) (by omega), ← hv]
          rfl)
        have HRCC := Aside0.mk (Kd.R_reads' HRV.out).2.2
        clear hce hlf hv hg hkk hlt hpos hmax
        obtain ⟨tad, tcs, rfl, _, tK, tcc⟩ := Kd.C_get HRCC.out (0 : Int) v (by omega) (by omega)
        obtain rfl := tK
        have tx0 := ((Below.refl wr.heap.size wr).cell (World.block_lt_of_cell? wr _ (tcc 0 _ rfl))).trans (tcc 0 _ rfl)
        simp only [show (Kd.int .i64).sz = 1 from rfl, Nat.mul_one, Nat.add_zero] at tx0
        clear tcc
        generalize Yt0 : fs.getD v.toNat (0 : Int) = t at tx0
        have Yt := Aside0.mk Yt0; clear Yt0
        rw [Yt.out] at HE
        go_wp2_with fail
        go_ret2
        exact ⟨by rw [HE.out]; rfl, HB.out⟩
theorem rcells_calls (l : List FF) (hl : FlatSmall l) (w : World) (A : Option Addr) (c : Nat) (hC : kFF.C w A l.length l) :
    Calls Tryz.prog 15 #[.agg #[.slice A l.length c]] w fun e w' => e = .returned (.tuple #[.int .i64 (cellsV l), .int .i64 (errV l)]) ∧ Below w.heap.size w w' := by
  have hmax := hl.len
  have hrr := fun (W : World) (hB : Below w.heap.size w W) => rright_calls l hl W A c (Kd.C_below hC hB)
  have HC := Aside0.mk hC
  clear hl hC
  cases hok : flatOk l with
  | false =>
    have HV := Aside0.mk (show cellsV l = 0 ∧ errV l = 10 by unfold cellsV errV; rw [hok]; exact ⟨rfl, rfl⟩)
    rw [hok] at hrr
    rw [HV.out.1, HV.out.2]
    clear hok HV
    go_enter Tryz.func15, Tryz.ntmps15
    go_wp2_with fail
    refine (hrr _ (below_alloc (Below.refl _ w) _)).mono ?_
    rintro e w1 ⟨rfl, hb⟩
    have HB := Aside0.mk (below_step (below_alloc (Below.refl _ w) _) hb)
    clear hb hrr
    go_wp2_with fail
    go_ret2
    exact ⟨rfl, HB.out⟩
  | true =>
    have hpos := flat_pos hok
    obtain ⟨v, hv⟩ : ∃ v : Int, ((l.length - 1 : Nat) : Int) = v := ⟨_, rfl⟩
    have hv0 : 0 ≤ v := by omega
    have hv1 : v < (l.length : Int) := by omega
    have hw1 : wrap64 ((l.length : Int) - 1) = v := by unfold wrap64; omega
    have hxe : l.getD (l.length - 1) zFF = l.getD v.toNat zFF := by rw [← hv]; rfl
    have HV := Aside0.mk (show cellsV l = (l.getD v.toNat zFF).cells ∧ errV l = 0 by unfold cellsV errV; rw [hok, hxe]; exact ⟨rfl, rfl⟩)
    rw [hok] at hrr
    rw [HV.out.1, HV.out.2]
    clear hok hxe hv HV hpos hmax
    obtain ⟨ead, ecs, rfl, _, eK, ecc⟩ := Kd.C_get HC.out zFF v (by omega) (by omega)
    have eK' := eK
    obtain ⟨eA0, ec0, eA1, ec1, eA3, ec3, eA4, ec4, eA5, ec5, rfl, _, _, _, _, _, _, _, _, _, _⟩ := kFF_open6 eK'
    have ex2 := ecc 2 _ rfl
    rw [show kFF.sz = 6 from rfl, add_field _ _ 2 (by omega)] at ex2
    clear ecc eK eK'
    generalize l.getD v.toNat zFF = x at ex2 ⊢
    go_enter Tryz.func15, Tryz.ntmps15
    go_wp2_with fail
    refine (hrr _ (below_alloc (Below.refl _ w) _)).mono ?_
    rintro e w1 ⟨rfl, hb⟩
    have HB := Aside0.mk (below_step (below_alloc (Below.refl _ w) _) hb)
    have HBX := Aside0.mk (below_blk (blk_new w _) hb)
    have b0 := (blk_cell HBX.out 0).trans rfl
    have ex3 := (HB.out.cell (World.block_lt_of_cell? w _ ex2)).trans ex2
    clear hb hrr ex2
    go_wp2_with fail
    go_ret2
    exact ⟨rfl, HB.out⟩
theorem rcostF_calls (l : List FF) (hl : FlatSmall l) (w : World) (A : Option Addr) (c : Nat) (hC : kFF.C w A l.length l) :
    Calls Tryz.prog 17 #[.agg #[.slice A l.length c]] w fun e w' => e = .returned (.tuple #[.int .i64 (costV true l), .int .i64 (errV l)]) ∧ Below w.heap.size w w' := by
  have hcc : ∀ (W : World), Below w.heap.size w W → Calls Tryz.prog 43 #[.agg #[.slice A l.length c], .bool false] W fun e w' => e = .returned (.tuple #[.int .i64 (costV true l), .int .i64 (errV l)]) ∧ Below W.heap.size W w' := fun W hB => rall_calls true l hl W A c (Kd.C_below hC hB)
  clear hl hC
  generalize costV true l = cv at hcc ⊢
  generalize errV l = ev at hcc ⊢
  go_enter Tryz.func17, Tryz.ntmps17
  go_wp2_with fail
  refine (hcc _ (below_alloc (Below.refl _ w) _)).mono ?_
  rintro e w1 ⟨rfl, hb⟩
  have HB := Aside0.mk (below_step (below_alloc (Below.refl _ w) _) hb)
  clear hb hcc
  go_wp2_with fail
  go_ret2
  exact ⟨rfl, HB.out⟩
theorem rleastF_calls (l : List FF) (hl : FlatSmall l) (w : World) (A : Option Addr) (c : Nat) (hC : kFF.C w A l.length l) :
    Calls Tryz.prog 19 #[.agg #[.slice A l.length c]] w fun e w' => e = .returned (.tuple #[.int .i64 (costV false l), .int .i64 (errV l)]) ∧ Below w.heap.size w w' := by
  have hcc : ∀ (W : World), Below w.heap.size w W → Calls Tryz.prog 43 #[.agg #[.slice A l.length c], .bool true] W fun e w' => e = .returned (.tuple #[.int .i64 (costV false l), .int .i64 (errV l)]) ∧ Below W.heap.size W w' := fun W hB => rall_calls false l hl W A c (Kd.C_below hC hB)
  clear hl hC
  generalize costV false l = cv at hcc ⊢
  generalize errV l = ev at hcc ⊢
  go_enter Tryz.func19, Tryz.ntmps19
  go_wp2_with fail
  refine (hcc _ (below_alloc (Below.refl _ w) _)).mono ?_
  rintro e w1 ⟨rfl, hb⟩
  have HB := Aside0.mk (below_step (below_alloc (Below.refl _ w) _) hb)
  clear hb hcc
  go_wp2_with fail
  go_ret2
  exact ⟨rfl, HB.out⟩

end Go.Proofs.YticndoihkfbpoaaGreatDoor
