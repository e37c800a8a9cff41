/- Package bound: greatest, none, cost. -/
import Derived.StillTailTactics
import Derived.Test.YticndoihkfbpoaaGreatDoorVh
namespace Go.Proofs.YticndoihkfbpoaaGreatDoor
open Go Go.RowKit Go.Lib Go.Proofs.YticndoihkfbpoaaGreatDoorW.PrintWords Go.Proofs.YticndoihkfbpoaaGreatDoor.PScope
set_option maxRecDepth 100000
set_option linter.unusedSimpArgs false
set_option linter.unusedVariables false

theorem greatest_eg : ∀ args w, (callFunc 42 args).run Tryz.prog w = .ok (.enter 42 args) w := enters_of Tryz.func42 (by kernel_rfl) rfl
theorem none_eg : ∀ args w, (callFunc 44 args).run Tryz.prog w = .ok (.enter 44 args) w := enters_of Tryz.func44 (by kernel_rfl) rfl
/-- What a function for arms answers. -/
def ArmsSay (mx : Bool) (fm : Nat) : Prop := ∀ (cs : List Int) (w : World) (A : Option Addr) (c : Nat), (Kd.int .i64).C w A cs.length cs → Calls Tryz.prog fm #[.slice A cs.length c] w fun e w' => e = .returned (.int .i64 (armsL mx cs)) ∧ Below w.heap.size w w'
theorem none_calls : ArmsSay false 44 := by
  intro cs w A c hC
  clear hC
  go_enter Tryz.func44, Tryz.ntmps44
  go_wp2_with fail
  go_ret
  exact ⟨rfl, Below.refl _ _⟩
theorem greatest_calls : ArmsSay true 42 := by
  intro cs w A c hC
  have hmax := hC.2.1
  have HC := Aside0.mk hC
  clear hC
  show Calls _ _ _ _ fun e w' => e = .returned (.int .i64 (greatestL 0 cs)) ∧ Below w.heap.size w w'
  go_enter Tryz.func42, Tryz.ntmps42
  go_wp2
  go_loopg [3, 8] cs.length (fun gg s3 s8 wr => ∃ (kk : Nat) (cur : Int), kk ≤ cs.length ∧ cs.length - kk ≤ gg ∧ s8 = .int .i64 kk ∧ s3 = .int .i64 cur ∧ Aside0 (Below w.heap.size w wr) ∧ Aside0 (greatestL cur (cs.drop kk) = greatestL 0 cs))
  case atStart => exact ⟨0, 0, Nat.zero_le _, by omega, rfl, rfl, ⟨Below.refl _ _⟩, ⟨rfl⟩⟩
  case round =>
    obtain ⟨kk, cur, hkk, hg, rfl, rfl, HB, HS⟩ := hrel
    by_cases hlt : kk < cs.length
    · have hltz : (kk : Int) < (cs.length : Int) := by omega
      have HS1 := Aside0.mk (show greatestL (max cur (cs.getD kk (0 : Int))) (cs.drop (kk + 1)) = greatestL 0 cs by rw [← HS.out, drop_getD cs kk hlt (0 : Int), greatestL])
      clear HS

      obtain ⟨ead, ecs, rfl, _, eK, ecc⟩ := Kd.C_get HC.out (0 : Int) (kk : Int) (by omega) (by omega)
      obtain rfl := eK
      have ex0 := (HB.out.cell (World.block_lt_of_cell? w _ (ecc 0 _ rfl))).trans (ecc 0 _ rfl)
      simp only [show (Kd.int .i64).sz = 1 from rfl, Nat.mul_one, Nat.add_zero, Int.toNat_natCast] at ex0
      clear ecc
      try simp only [Int.toNat_natCast] at ex0
      generalize Yx0 : cs.getD kk (0 : Int) = x at ex0
      have Yx := Aside0.mk Yx0; clear Yx0
      rw [Yx.out] at HS1
      go_wp2_with fail
      go_roundg (cs.length - (kk + 1))
      case measure => omega
      case rel => exact ⟨kk + 1, max cur x, by omega, by omega, by go_num, by first | rfl | go_num, HB, HS1⟩
    · have hltz : ¬ (kk : Int) < (cs.length : Int) := by omega
      obtain rfl : kk = cs.length := by omega
      have HE := Aside0.mk (show cur = greatestL 0 cs by have h := HS.out; rw [List.drop_length, greatestL] at h; exact h)
      go_wp2
      go_ret
      exact ⟨by rw [← HE.out]; rfl, HB.out⟩

/-- What cost answers of a row. -/
def CostSays (mx : Bool) (fm : Nat) (l : List FS) : Prop := ∀ (fs : List Int) (w : World) (A : Option Addr) (c : Nat) (gx : Nat) (F : Option Addr) (cF : Nat), kFS.C w A l.length l → w.heap[gx]? = some (.cells #[.slice F fs.length cF, .func (.func fm) #[] #[]] 117 (0, 0)) → (Kd.int .i64).C w F fs.length fs → FsOk fs → badL fs.length l = false →
  Calls Tryz.prog 64 #[.pointer (some ⟨gx, 0, none⟩), .slice A l.length c] w fun e w' => e = .returned (.int .i64 (costL mx fs 0 l)) ∧ Below w.heap.size w w'
set_option maxHeartbeats 8000000 in
theorem cost_calls (mx : Bool) (fm : Nat) (egm : ∀ args w, (callFunc fm args).run Tryz.prog w = .ok (.enter fm args) w) (harms : ArmsSay mx fm) : ∀ (l : List FS), Small l → CostSays mx fm l := by
  intro l hl
  induction hl with
  | mk l h1 h2 h3 ih =>
    intro fs w A c gx F cF hC hx hF hO hb
    have hmax : l.length ≤ 9223372036854775807 := hC.2.1
    have HI := Aside0.mk ih
    have HC := Aside0.mk hC
    have HX := Aside0.mk hx
    have HF := Aside0.mk hF
    have HO := Aside0.mk hO
    have HBD := Aside0.mk hb
    have HAR := Aside0.mk h2
    have HSU := Aside0.mk h3
    have HAM := Aside0.mk harms
    have HU := Aside0.mk Tryz.underlying32
    clear h1 h2 h3 ih hC hx hF hO hb harms
    go_enter Tryz.func64, Tryz.ntmps64
    go_wp2
    go_loopg [5, 13] l.length (fun gg s5 s13 wr => ∃ (kk : Nat) (cur : Int), kk ≤ l.length ∧ l.length - kk ≤ gg ∧ s13 = .int .i64 kk ∧ s5 = .int .i64 cur ∧ Aside0 (Below w.heap.size w wr) ∧ Aside0 (0 ≤ cur ∧ cur ≤ 1073741824) ∧ Aside0 (costL mx fs cur (l.drop kk) = costL mx fs 0 l))
    case atStart => exact ⟨0, 0, Nat.zero_le _, by omega, rfl, rfl, ⟨Below.refl _ _⟩, ⟨by omega⟩, ⟨rfl⟩⟩
    case round =>
      obtain ⟨kk, cur, hkk, hg, rfl, rfl, HB, HR, HS⟩ := hrel
      by_cases hlt : kk < l.length
      · have hltz : (kk : Int) < (l.length : Int) := by omega
        have HM := Aside0.mk (getD_mem hlt zFS)
        have HS1 := Aside0.mk (show costL mx fs (costS mx fs cur (l.getD kk zFS)) (l.drop (kk + 1)) = costL mx fs 0 l by rw [← HS.out, drop_getD l kk hlt zFS, costL])
        clear HS
        obtain ⟨ead, ecs, rfl, _, eK, ecc⟩ := Kd.C_get HC.out zFS (kk : Int) (by omega) (by omega)
        have eK' := eK
        obtain ⟨eA4, ec4, eA8, ec8, eA9, ec9, eA6, ec6, eA7, ec7, rfl, el4, eg4, el8, eg8, el9, eg9, el6, eg6, el7, eg7⟩ := kFS_openV eK'
        have ex0 := (HB.out.cell (World.block_lt_of_cell? w _ (ecc 0 _ rfl))).trans (ecc 0 _ rfl)
        have ex1 := (HB.out.cell (World.block_lt_of_cell? w _ (ecc 1 _ rfl))).trans (ecc 1 _ rfl)
        have ex2 := (HB.out.cell (World.block_lt_of_cell? w _ (ecc 2 _ rfl))).trans (ecc 2 _ rfl)
        have ex3 := (HB.out.cell (World.block_lt_of_cell? w _ (ecc 3 _ rfl))).trans (ecc 3 _ rfl)
        have ex4 := (HB.out.cell (World.block_lt_of_cell? w _ (ecc 4 _ rfl))).trans (ecc 4 _ rfl)
        have ex5 := (HB.out.cell (World.block_lt_of_cell? w _ (ecc 5 _ rfl))).trans (ecc 5 _ rfl)
        have ex6 := (HB.out.cell (World.block_lt_of_cell? w _ (ecc 6 _ rfl))).trans (ecc 6 _ rfl)
        have ex7 := (HB.out.cell (World.block_lt_of_cell? w _ (ecc 7 _ rfl))).trans (ecc 7 _ rfl)
        have ex8 := (HB.out.cell (World.block_lt_of_cell? w _ (ecc 8 _ rfl))).trans (ecc 8 _ rfl)
        have ex9 := (HB.out.cell (World.block_lt_of_cell? w _ (ecc 9 _ rfl))).trans (ecc 9 _ rfl)
        have ex10 := (HB.out.cell (World.block_lt_of_cell? w _ (ecc 10 _ rfl))).trans (ecc 10 _ rfl)
        have ex11 := (HB.out.cell (World.block_lt_of_cell? w _ (ecc 11 _ rfl))).trans (ecc 11 _ rfl)
        rw [show (kFS).sz = 12 from rfl, Nat.add_zero, Int.toNat_natCast] at ex0
        rw [show (kFS).sz = 12 from rfl, Int.toNat_natCast, add_field _ _ 1 (by omega)] at ex1
        rw [show (kFS).sz = 12 from rfl, Int.toNat_natCast, add_field _ _ 2 (by omega)] at ex2
        rw [show (kFS).sz = 12 from rfl, Int.toNat_natCast, add_field _ _ 3 (by omega)] at ex3
        rw [show (kFS).sz = 12 from rfl, Int.toNat_natCast, add_field _ _ 4 (by omega)] at ex4
        rw [show (kFS).sz = 12 from rfl, Int.toNat_natCast, add_field _ _ 5 (by omega)] at ex5
        rw [show (kFS).sz = 12 from rfl, Int.toNat_natCast, add_field _ _ 6 (by omega)] at ex6
        rw [show (kFS).sz = 12 from rfl, Int.toNat_natCast, add_field _ _ 7 (by omega)] at ex7
        rw [show (kFS).sz = 12 from rfl, Int.toNat_natCast, add_field _ _ 8 (by omega)] at ex8
        rw [show (kFS).sz = 12 from rfl, Int.toNat_natCast, add_field _ _ 9 (by omega)] at ex9
        rw [show (kFS).sz = 12 from rfl, Int.toNat_natCast, add_field _ _ 10 (by omega)] at ex10
        rw [show (kFS).sz = 12 from rfl, Int.toNat_natCast, add_field _ _ 11 (by omega)] at ex11
        clear ecc
        try simp only [Int.toNat_natCast] at ex0 ex1 ex2 ex3 ex4 ex5 ex6 ex7 ex8 ex9 ex10 ex11 eK el4 eg4 el8 eg8 el9 eg9 el6 eg6 el7 eg7
        generalize Ys0 : l.getD kk zFS = s at ex0 ex1 ex2 ex3 ex4 ex5 ex6 ex7 ex8 ex9 ex10 ex11 eK el4 eg4 el8 eg8 el9 eg9 el6 eg6 el7 eg7
        have Ys := Aside0.mk Ys0; clear Ys0
        rw [Ys.out] at HS1 HM
        have eL4 := Aside0.mk el4; have eG4 := Aside0.mk eg4; clear el4 eg4
        have eL8 := Aside0.mk el8; have eG8 := Aside0.mk eg8; clear el8 eg8
        have eL9 := Aside0.mk el9; have eG9 := Aside0.mk eg9; clear el9 eg9
        have eL6 := Aside0.mk el6; have eG6 := Aside0.mk eg6; clear el6 eg6
        have eL7 := Aside0.mk el7; have eG7 := Aside0.mk eg7; clear el7 eg7
        clear eK
        have HBS := Aside0.mk (badL_mem HBD.out HM.out)
        have HAL := Aside0.mk (HAR.out s HM.out)
        have HSB := Aside0.mk (HSU.out s HM.out)
        have HIS := Aside0.mk (HI.out s HM.out)
        have hw0 : wrap64 (cur + 1) = cur + 1 := by have := HR.out; unfold wrap64; omega
        by_cases h3 : s.op = 3
        · have y3 : (s.op == (3 : Int)) = true := by rw [h3]; rfl
          have hfn := badS_fn HBS.out h3
          have HN := Aside0.mk (show costS mx fs cur s = min (cur + 1 + rd0 fs s.fn) 1073741824 by rw [costS_eq, if_pos h3])
          have HNB := Aside0.mk (show 0 ≤ cur + 1 + rd0 fs s.fn ∧ cur + 1 + rd0 fs s.fn ≤ 4294967296 by have := HR.out; have := rd0_ok HO.out s.fn; omega)
          rw [HN.out] at HS1
          clear h3
          have hf0 := hfn.1
          have hf1 := hfn.2
          clear hfn
          obtain ⟨tad, tcs, rfl, _, tK, tcc⟩ := Kd.C_get HF.out (0 : Int) s.fn (by omega) (by omega)
          obtain rfl := tK
          have tx0 := ((Below.refl w.heap.size w).cell (World.block_lt_of_cell? w _ (tcc 0 _ rfl))).trans (tcc 0 _ rfl)
          simp only [show (Kd.int .i64).sz = 1 from rfl, Nat.mul_one, Nat.add_zero] at tx0
          clear tcc
          generalize Yt0 : fs.getD s.fn.toNat (0 : Int) = t at tx0
          have Yt := Aside0.mk Yt0; clear Yt0
          have Yt2 := Aside0.mk (show rd0 fs s.fn = t from Yt.out)
          rw [Yt2.out] at HS1 HNB
          have hw1 : wrap64 (cur + 1 + t) = cur + 1 + t := by have := HNB.out; unfold wrap64; omega
          have hw2 : IntKind.i64.wrap (cur + 1 + t) = cur + 1 + t := by rw [wrapEq]; exact hw1
          go_wp2_with ((with_reducible refine gate_store (t := 41) (p := 7) rfl ?_); refine store_whole rfl rfl 41 _ _ rfl wr.heap.size _ 41 rfl (blk_new _ _) _ rfl rfl rfl (by simp [Value.oneCell']) ?_; intro w2 hb2 hg2; replace HB := Aside0.mk (below_as HB.out hg2); obtain ⟨ge, hq_⟩ : ∃ g_, g_ = wr.heap.size := ⟨_, rfl⟩; rw [← hq_] at hb2; rw [← hq_]; have BE := Aside0.mk hb2; clear hb2 hg2 hq_; have ty := (HB.out.cell (World.block_lt_of_cell? w _ tx0)).trans tx0; have cx_0 := (blk_cell (below_blk HX.out HB.out) 0).trans rfl; have cx_1 := (blk_cell (below_blk HX.out HB.out) 1).trans rfl; have ce_0 := (blk_cell BE.out 0).trans rfl; have ce_1 := (blk_cell BE.out 1).trans rfl; have ce_2 := (blk_cell BE.out 2).trans rfl; have ce_3 := (blk_cell BE.out 3).trans rfl; have ce_4 := (blk_cell BE.out 4).trans rfl; have ce_5 := (blk_cell BE.out 5).trans rfl; have ce_6 := (blk_cell BE.out 6).trans rfl; have ce_7 := (blk_cell BE.out 7).trans rfl; have ce_8 := (blk_cell BE.out 8).trans rfl; have ce_9 := (blk_cell BE.out 9).trans rfl; have ce_10 := (blk_cell BE.out 10).trans rfl; have ce_11 := (blk_cell BE.out 11).trans rfl)
          go_still_tail 10, (by kernel_rfl)
          change wpList _ _ _ _ _ (World.drew w2)
          replace HB := Aside0.mk (below_drew1 HB.out)
          clear ty tx0 cx_0 cx_1 BE ce_0 ce_1 ce_2 ce_3 ce_4 ce_5 ce_6 ce_7 ce_8 ce_9 ce_10 ce_11
          generalize World.drew w2 = w3 at HB ⊢
          go_wp2_with fail
          go_roundg (l.length - (kk + 1))
          case measure => omega
          case rel => exact ⟨kk + 1, min (cur + 1 + t) 1073741824, by omega, by omega, by go_num, by first | rfl | go_num, HB, ⟨by have := HNB.out; omega⟩, HS1⟩
        have y3 : (s.op == (3 : Int)) = false := beq_eq_false_iff_ne.2 h3
        by_cases h5 : s.op = 5
        · have y5 : (s.op == (5 : Int)) = true := by rw [h5]; rfl
          obtain ⟨AL, hAL⟩ : ∃ AL, s.arms.map (fun a => costL mx fs 0 a.2) = AL := ⟨_, rfl⟩
          have HN := Aside0.mk (show costS mx fs cur s = min (cur + 1 + armsL mx AL) 1073741824 by rw [costS_eq, if_neg h3, if_pos h5, hAL])
          have HAO := Aside0.mk (show 0 ≤ armsL mx AL ∧ armsL mx AL ≤ 1073741824 from armsL_ok (fun c hc => by rw [← hAL] at hc; obtain ⟨a, ha, rfl⟩ := List.mem_map.1 hc; exact costL_ok HO.out (HSB.out a ha) 0 (by omega) (by omega)))
          rw [HN.out] at HS1
          have HALE := Aside0.mk hAL
          clear h3 h5 hAL
          go_wp2_with ((with_reducible refine gate_store (t := 41) (p := 7) rfl ?_); refine store_whole rfl rfl 41 _ _ rfl wr.heap.size _ 41 rfl (blk_new _ _) _ rfl rfl rfl (by simp [Value.oneCell']) ?_; intro w2 hb2 hg2; replace HB := Aside0.mk (below_as HB.out hg2); obtain ⟨ge, hq_⟩ : ∃ g_, g_ = wr.heap.size := ⟨_, rfl⟩; rw [← hq_] at hb2; rw [← hq_]; have BE := Aside0.mk hb2; clear hb2 hg2 hq_; have ce_0 := (blk_cell BE.out 0).trans rfl; have ce_1 := (blk_cell BE.out 1).trans rfl; have ce_2 := (blk_cell BE.out 2).trans rfl; have ce_3 := (blk_cell BE.out 3).trans rfl; have ce_4 := (blk_cell BE.out 4).trans rfl; have ce_5 := (blk_cell BE.out 5).trans rfl; have ce_6 := (blk_cell BE.out 6).trans rfl; have ce_7 := (blk_cell BE.out 7).trans rfl; have ce_8 := (blk_cell BE.out 8).trans rfl; have ce_9 := (blk_cell BE.out 9).trans rfl; have ce_10 := (blk_cell BE.out 10).trans rfl; have ce_11 := (blk_cell BE.out 11).trans rfl)
          clear BE ce_0 ce_1 ce_2 ce_3 ce_4 ce_5 ce_6 ce_7 ce_8 ce_9 ce_10 ce_11
          try rw [hw0]
          clear hw0
          have haml : s.arms.length ≤ 8796093022208 := HAL.out
          have HR0 := Aside0.mk (Kd.R_nil (Kd.int .i64) 3 w2 w.heap.size (fun _ => True))
          go_loopg [8, 38] s.arms.length (fun gg s8 s38 wr => ∃ (jj : Nat) (cs : List Int) (v : Value), jj ≤ s.arms.length ∧ s.arms.length - jj ≤ gg ∧ s38 = .int .i64 jj ∧ s8 = v ∧ Aside0 (Below w.heap.size w wr) ∧ Aside0 ((Kd.int .i64).R 3 wr w.heap.size (fun _ => True) v cs) ∧ Aside0 (cs = (s.arms.take jj).map (fun a => costL mx fs 0 a.2)))
          case atStart => exact ⟨0, [], _, Nat.zero_le _, by omega, rfl, rfl, HB, HR0, ⟨by simp⟩⟩
          case round =>
            clear HB HR0
            obtain ⟨jj, cs, v, hjj, hgj, rfl, rfl, HB, HRW, HCS⟩ := hrel
            obtain ⟨A5, c5, rfl⟩ := Kd.R_slice HRW.out
            have HCL := Aside0.mk (show cs.length = jj by rw [HCS.out]; simp; omega)
            by_cases hltj : jj < s.arms.length
            · have hltzj : (jj : Int) < (s.arms.length : Int) := by omega
              have HMA := Aside0.mk (getD_mem hltj zFA)
              have HC1 := Aside0.mk (show cs ++ [costL mx fs 0 (s.arms.getD jj zFA).2] = (s.arms.take (jj + 1)).map (fun a => costL mx fs 0 a.2) by rw [HCS.out, List.take_add_one, List.map_append, List.getD_eq_getElem?_getD, List.getElem?_eq_getElem hltj]; rfl)
              obtain ⟨fad, fcs, rfl, _, fK, fcc⟩ := Kd.C_get eG7.out zFA (jj : Int) (by omega) (by omega)
              have fK' := fK
              obtain ⟨fA1, fc1, rfl, fl1, fg1⟩ := kFA_open fK'
              have fx0 := (HB.out.cell (World.block_lt_of_cell? w _ (fcc 0 _ rfl))).trans (fcc 0 _ rfl)
              have fx1 := (HB.out.cell (World.block_lt_of_cell? w _ (fcc 1 _ rfl))).trans (fcc 1 _ rfl)
              rw [show (kFA).sz = 2 from rfl, Nat.add_zero, Int.toNat_natCast] at fx0
              rw [show (kFA).sz = 2 from rfl, Int.toNat_natCast, add_field _ _ 1 (by omega)] at fx1
              clear fcc
              try simp only [Int.toNat_natCast] at fx0 fx1 fK fl1 fg1
              generalize Ya0 : s.arms.getD jj zFA = a at fx0 fx1 fK fl1 fg1
              have Ya := Aside0.mk Ya0; clear Ya0
              rw [Ya.out] at HC1 HMA
              have fL1 := Aside0.mk fl1; have fG1 := Aside0.mk fg1; clear fl1 fg1
              clear fK
              have hcall := fun (W : World) (hB : Below w.heap.size w W) => HIS.out a HMA.out fs W fA1 fc1 gx F cF (Kd.C_below fG1.out hB) (below_blk HX.out hB) (Kd.C_below HF.out hB) HO.out (badS_arm HBS.out HMA.out)
              generalize costL mx fs 0 a.2 = r at HC1 hcall
              skip
              go_wp2_with ((with_reducible refine gate_store (t := 147) (p := 10) rfl ?_); refine store_whole rfl rfl 147 _ _ rfl wr.heap.size _ 147 rfl (blk_new _ _) _ rfl rfl rfl (by simp [Value.oneCell']) ?_; intro w2 hb2 hg2; replace HRW := Aside0.mk (Kd.R_below HRW.out (below_as (Below.refl _ _) hg2)); replace HB := Aside0.mk (below_as HB.out hg2); obtain ⟨gf, hq_⟩ : ∃ g_, g_ = wr.heap.size := ⟨_, rfl⟩; rw [← hq_] at hb2; rw [← hq_]; have BF := Aside0.mk hb2; clear hb2 hg2 hq_; have cf_0 := (blk_cell BF.out 0).trans rfl; have cf_1 := (blk_cell BF.out 1).trans rfl)
              refine (hcall _ HB.out).mono ?_
              rintro e w7 ⟨rfl, hb⟩
              replace HRW := Aside0.mk (Kd.R_below HRW.out hb)
              replace HB := Aside0.mk (below_step HB.out hb)
              clear hb cf_0 cf_1 hcall BF
              go_wp2_with (at_builtin; refine Kd.R_append (Kd.int .i64) (w0 := w) w.heap.size rfl (.tmp 42) (.tmp 47) 32 3 (.int .i64 0) 8 rfl HU.out info_int rfl (by decide) (by omega) (.slice A5 cs.length c5) cs r [.int .i64 r] (fun _ => True) (fun _ => False) rfl rfl (show (Kd.int .i64).M _ _ _ r [.int .i64 r] from rfl) (fun k hk => hk.elim) (fun _ _ => trivial) HRW.out HB.out HB.out.size (by have := HCL.out; omega) ?_; intro v1 w6 hr6 hb6 hg6 hat6; have HRW6 := Aside0.mk hr6; have HB6 := Aside0.mk hb6; clear hr6 hb6 hg6 hat6 HRW HB)
              go_roundg (s.arms.length - (jj + 1))
              case measure => omega
              case rel => exact ⟨jj + 1, cs ++ [r], v1, by omega, by omega, by go_num, rfl, HB6, HRW6, HC1⟩
            · have hltzj : ¬ (jj : Int) < (s.arms.length : Int) := by omega
              obtain rfl : jj = s.arms.length := by omega
              have hce := HCS.out
              rw [List.take_length, HALE.out] at hce
              subst hce
              obtain ⟨A6, c6, hv6, _, hC6⟩ := Kd.R_reads HRW.out
              injection hv6 with hv7 hv8 hv9
              subst hv7
              subst hv9
              have HC6 := Aside0.mk hC6
              have hcall := fun (W : World) (hC : (Kd.int .i64).C W A5 cs.length cs) => HAM.out cs W A5 c5 hC
              clear hC6 hv8 HCS hgj hjj
              obtain ⟨r, hr⟩ : ∃ r, armsL mx cs = r := ⟨_, rfl⟩
              rw [hr] at hcall HS1 HAO
              clear hr HN
              have cx_0 := (blk_cell (below_blk HX.out HB.out) 0).trans rfl
              have cx_1 := (blk_cell (below_blk HX.out HB.out) 1).trans rfl
              have HNB := Aside0.mk (show 0 ≤ cur + 1 + r ∧ cur + 1 + r ≤ 4294967296 by have := HR.out; have := HAO.out; omega)
              have hw1 : wrap64 (cur + 1 + r) = cur + 1 + r := by have := HNB.out; unfold wrap64; omega
              go_wp2_with (go_at_fn fm; refine (hcall _ HC6.out).mono ?_; rintro e w7 ⟨rfl, hb⟩; replace HB := Aside0.mk (below_step HB.out hb); clear hb hcall cx_0 cx_1 HC6 HRW)
              go_roundg (l.length - (kk + 1))
              case measure => omega
              case rel => exact ⟨kk + 1, min (cur + 1 + r) 1073741824, by omega, by omega, by go_num, by first | rfl | go_num, HB, ⟨by have := HNB.out; omega⟩, HS1⟩
        have y5 : (s.op == (5 : Int)) = false := beq_eq_false_iff_ne.2 h5
        have HN := Aside0.mk (show costS mx fs cur s = min (cur + 1) 1073741824 by rw [costS_eq, if_neg h3, if_neg h5])
        have HNB := Aside0.mk (show 0 ≤ cur + 1 ∧ cur + 1 ≤ 4294967296 by have := HR.out; omega)
        rw [HN.out] at HS1
        clear h3 h5
        go_wp2_with ((with_reducible refine gate_store (t := 41) (p := 7) rfl ?_); refine store_whole rfl rfl 41 _ _ rfl wr.heap.size _ 41 rfl (blk_new _ _) _ rfl rfl rfl (by simp [Value.oneCell']) ?_; intro w2 hb2 hg2; replace HB := Aside0.mk (below_as HB.out hg2); obtain ⟨ge, hq_⟩ : ∃ g_, g_ = wr.heap.size := ⟨_, rfl⟩; rw [← hq_] at hb2; rw [← hq_]; have BE := Aside0.mk hb2; clear hb2 hg2 hq_; have ce_0 := (blk_cell BE.out 0).trans rfl; have ce_1 := (blk_cell BE.out 1).trans rfl; have ce_2 := (blk_cell BE.out 2).trans rfl; have ce_3 := (blk_cell BE.out 3).trans rfl; have ce_4 := (blk_cell BE.out 4).trans rfl; have ce_5 := (blk_cell BE.out 5).trans rfl; have ce_6 := (blk_cell BE.out 6).trans rfl; have ce_7 := (blk_cell BE.out 7).trans rfl; have ce_8 := (blk_cell BE.out 8).trans rfl; have ce_9 := (blk_cell BE.out 9).trans rfl; have ce_10 := (blk_cell BE.out 10).trans rfl; have ce_11 := (blk_cell BE.out 11).trans rfl)
        clear BE ce_0 ce_1 ce_2 ce_3 ce_4 ce_5 ce_6 ce_7 ce_8 ce_9 ce_10 ce_11
        go_roundg (l.length - (kk + 1))
        case measure => omega
        case rel => exact ⟨kk + 1, min (cur + 1) 1073741824, by omega, by omega, by go_num, by first | rfl | go_num, HB, ⟨by have := HNB.out; omega⟩, HS1⟩
      · have hltz : ¬ (kk : Int) < (l.length : Int) := by omega
        obtain rfl : kk = l.length := by omega
        have HE := Aside0.mk (show cur = costL mx fs 0 l by have h := HS.out; rw [List.drop_length, costL] at h; exact h)
        go_wp2
        go_ret
        exact ⟨by rw [← HE.out]; rfl, HB.out⟩

end Go.Proofs.YticndoihkfbpoaaGreatDoor
