/- Package bound: Cells, Cost, Least: what they tell of any flat program. -/
import Derived.StillTailTactics
import Derived.Deep.RegionLaw
import Derived.Test.YticndoihkfbpoaaGreatDoorVi
namespace Go.Proofs.YticndoihkfbpoaaGreatDoor
open Go Go.RowKit Go.Lib Go.Proofs.YticndoihkfbpoaaGreatDoorW.PrintWords Go.Proofs.YticndoihkfbpoaaGreatDoor.PScope
set_option maxRecDepth 100000
set_option linter.unusedSimpArgs false
set_option linter.unusedVariables false

def errV (l : List FF) : Int := if flatOk l then 0 else 10
def cellsV (l : List FF) : Int := if flatOk l then (l.getD (l.length - 1) zFF).cells else 0
def costV (mx : Bool) (l : List FF) : Int := if flatOk l then lastCost mx l else 0
/-- New's answer, its runner left aside. -/
theorem new_weak (l : List FF) (hl : FlatSmall l) (w : World) (A : Option Addr) (c : Nat) (hC : kFF.C w A l.length l) :
    Calls Tryz.prog 21 #[.agg #[.slice A l.length c]] w fun e w' => ∃ pv, e = .returned (.tuple #[pv, .int .i64 (newErr l)]) ∧ Below w.heap.size w w' := by
  refine (new_calls l hl w A c hC).mono ?_
  intro e w' h
  rcases h with ⟨_, rfl, hb⟩ | ⟨h0, g, ma, rfl, hR⟩
  · exact ⟨_, rfl, hb⟩
  · exact ⟨_, by rw [h0], hR.below⟩
theorem newErr_cases (l : List FF) : (flatOk l = false ∧ newErr l = 10) ∨ (flatOk l = true ∧ (newErr l = 9 ∨ newErr l = 0)) := by
  unfold newErr
  cases flatOk l with
  | false => exact .inl ⟨rfl, rfl⟩
  | true =>
    refine .inr ⟨rfl, ?_⟩
    rw [if_pos rfl]
    split
    · exact .inl rfl
    · exact .inr rfl
set_option maxHeartbeats 2000000 in
theorem cells_calls (l : List FF) (hl : FlatSmall l) (w : World) (A : Option Addr) (c : Nat) (hC : kFF.C w A l.length l) :
    Calls Tryz.prog 14 #[.agg #[.slice A l.length c]] w fun e w' => e = .returned (.tuple #[.int .i64 (cellsV l), .int .i64 (errV l)]) ∧ Below w.heap.size w w' := by
  have hmax := hl.len
  have hn := fun (W : World) (hB : Below w.heap.size w W) => new_weak l hl W A c (Kd.C_below hC hB)
  have HC := Aside0.mk hC
  clear hl hC
  rcases newErr_cases l with ⟨hok, her⟩ | ⟨hok, her⟩
  · rw [her] at hn
    have HV := Aside0.mk (show cellsV l = 0 ∧ errV l = 10 by unfold cellsV errV; rw [hok]; exact ⟨rfl, rfl⟩)
    rw [HV.out.1, HV.out.2]
    clear hok her
    go_enter Tryz.func14, Tryz.ntmps14
    go_wp2_with fail
    refine (hn _ (below_alloc (Below.refl _ w) _)).mono ?_
    rintro e w1 ⟨pv, rfl, hb⟩
    have HB := Aside0.mk (below_step (below_alloc (Below.refl _ w) _) hb)
    clear hb hn
    go_wp2_with fail
    go_ret2
    exact ⟨rfl, HB.out⟩
  · have hpos := flat_pos hok
    obtain ⟨v, hv⟩ : ∃ v : Int, ((l.length - 1 : Nat) : Int) = v := ⟨_, rfl⟩
    have hv0 : 0 ≤ v := by omega
    have hv1 : v < (l.length : Int) := by omega
    have hw1 : wrap64 ((l.length : Int) - 1) = v := by unfold wrap64; omega
    have hxe : l.getD (l.length - 1) zFF = l.getD v.toNat zFF := by rw [← hv]; rfl
    have HV := Aside0.mk (show cellsV l = (l.getD v.toNat zFF).cells ∧ errV l = 0 by unfold cellsV errV; rw [hok, hxe]; exact ⟨rfl, rfl⟩)
    rw [HV.out.1, HV.out.2]
    clear hok hxe hv HV hpos hmax
    obtain ⟨ead, ecs, rfl, _, eK, ecc⟩ := Kd.C_get HC.out zFF v (by omega) (by omega)
    have eK' := eK
    obtain ⟨eA0, ec0, eA1, ec1, eA3, ec3, eA4, ec4, eA5, ec5, rfl, _, _, _, _, _, _, _, _, _, _⟩ := kFF_open6 eK'
    have ex2 := ecc 2 _ rfl
    rw [show kFF.sz = 6 from rfl, add_field _ _ 2 (by omega)] at ex2
    clear ecc eK eK'
    generalize l.getD v.toNat zFF = x at ex2 ⊢
    rcases her with her | her
    · rw [her] at hn
      clear her
      go_enter Tryz.func14, Tryz.ntmps14
      go_wp2_with fail
      refine (hn _ (below_alloc (Below.refl _ w) _)).mono ?_
      rintro e w1 ⟨pv, rfl, hb⟩
      have HB := Aside0.mk (below_step (below_alloc (Below.refl _ w) _) hb)
      have HBX := Aside0.mk (below_blk (blk_new w _) hb)
      have b0 := (blk_cell HBX.out 0).trans rfl
      have ex3 := (HB.out.cell (World.block_lt_of_cell? w _ ex2)).trans ex2
      clear hb hn ex2
      go_wp2_with fail
      go_ret2
      exact ⟨rfl, HB.out⟩
    · rw [her] at hn
      clear her
      go_enter Tryz.func14, Tryz.ntmps14
      go_wp2_with fail
      refine (hn _ (below_alloc (Below.refl _ w) _)).mono ?_
      rintro e w1 ⟨pv, rfl, hb⟩
      have HB := Aside0.mk (below_step (below_alloc (Below.refl _ w) _) hb)
      have HBX := Aside0.mk (below_blk (blk_new w _) hb)
      have b0 := (blk_cell HBX.out 0).trans rfl
      have ex3 := (HB.out.cell (World.block_lt_of_cell? w _ ex2)).trans ex2
      clear hb hn ex2
      go_wp2_with fail
      go_ret2
      exact ⟨rfl, HB.out⟩

theorem fsOk_snoc {fs : List Int} (h : FsOk fs) {r : Int} (hr : 0 ≤ r ∧ r ≤ 1073741824) : FsOk (fs ++ [r]) := by
  intro c hc
  rcases List.mem_append.1 hc with hc | hc
  · exact h c hc
  · obtain rfl := List.mem_singleton.1 hc
    exact hr
/-- What of ends with. -/
def OfPost (mx : Bool) (l : List FF) (w : World) (e : Ending) (w' : World) : Prop := e = .returned (.tuple #[.int .i64 (costV mx l), .int .i64 (errV l)]) ∧ Below w.heap.size w w'
set_option maxHeartbeats 8000000 in
theorem bof_calls (mx : Bool) (fm : Nat) (egm : ∀ args w, (callFunc fm args).run Tryz.prog w = .ok (.enter fm args) w) (harms : ArmsSay mx fm) (l : List FF) (hl : FlatSmall l) (w : World) (A : Option Addr) (c : Nat) (hC : kFF.C w A l.length l) :
    Calls Tryz.prog 41 #[.agg #[.slice A l.length c], .func (.func fm) #[] #[]] w (OfPost mx l w) := by
  have hmax := hl.len
  have hcc := fun (W : World) (hB : Below w.heap.size w W) => cells_calls l hl W A c (Kd.C_below hC hB)
  have HC := Aside0.mk hC
  have HSM := Aside0.mk hl.body
  have HAM := Aside0.mk harms
  have HU := Aside0.mk Tryz.underlying32
  unfold OfPost
  clear hl hC harms
  cases hok : flatOk l with
  | false =>
    have HV := Aside0.mk (show costV mx l = 0 ∧ errV l = 10 by unfold costV errV; rw [hok]; exact ⟨rfl, rfl⟩)
    rw [HV.out.2] at hcc
    rw [HV.out.1, HV.out.2]
    clear hok HV
    generalize cellsV l = cv at hcc
    go_enter Tryz.func41, Tryz.ntmps41
    go_wp2_with fail
    refine (hcc _ (below_alloc (Below.refl _ w) _)).mono ?_
    rintro e w1 ⟨rfl, hb⟩
    have HB := Aside0.mk (below_step (below_alloc (Below.refl _ w) _) hb)
    clear hb hcc
    go_wp2_with fail
    go_ret2
    exact ⟨rfl, HB.out⟩
  | true =>
    have hpos := flat_pos hok
    have HV := Aside0.mk (show costV mx l = lastCost mx l ∧ errV l = 0 by unfold costV errV; rw [hok]; exact ⟨rfl, rfl⟩)
    rw [HV.out.2] at hcc
    rw [HV.out.1, HV.out.2]
    have HOK := Aside0.mk hok
    clear hok HV
    generalize cellsV l = cv0 at hcc
    obtain ⟨AN, hAN⟩ : ∃ AN, lastCost mx l = AN := ⟨_, rfl⟩
    rw [hAN]
    have HAN := Aside0.mk hAN
    clear hAN
    go_enter Tryz.func41, Tryz.ntmps41
    go_wp2_with fail
    refine (hcc _ (below_alloc (Below.refl _ w) _)).mono ?_
    rintro e w1 ⟨rfl, hb⟩
    have HB := Aside0.mk (below_step (below_alloc (Below.refl _ w) _) hb)
    have HBX := Aside0.mk (below_blk (blk_new w _) hb)
    have b0 := (blk_cell HBX.out 0).trans rfl
    have b1 := fun (ob : Obj) => (blk_cell (blk_alloc HBX.out ob) 0).trans rfl
    clear hb hcc
    go_wp2_with fail
    have HX := Aside0.mk (show (w1.alloc (.cells #[.slice none 0 0, .func (.func fm) #[] #[]] 117 (0, 0))).heap[w1.heap.size]? = some (.cells #[.slice none 0 0, .func (.func fm) #[] #[]] 117 (0, 0)) from blk_new w1 _)
    have LX := Aside0.mk HB.out.size
    have HB2 := Aside0.mk (below_alloc HB.out (.cells #[.slice none 0 0, .func (.func fm) #[] #[]] 117 (0, 0)))
    have HBX2 := Aside0.mk (blk_alloc HBX.out (.cells #[.slice none 0 0, .func (.func fm) #[] #[]] 117 (0, 0)))
    have HNE := Aside0.mk (show w.heap.size ≠ w1.heap.size from fun e => by have := blk_lt HBX.out; omega)
    have HR0 := Aside0.mk (Kd.R_nil (Kd.int .i64) 3 (w1.alloc (.cells #[.slice none 0 0, .func (.func fm) #[] #[]] 117 (0, 0))) w.heap.size (fun _ => True))
    clear HB HBX b0 b1
    generalize w1.alloc (.cells #[.slice none 0 0, .func (.func fm) #[] #[]] 117 (0, 0)) = w2 at HX HB2 HBX2 HR0 ⊢
    generalize w1.heap.size = gx at HX LX HNE ⊢
    go_loopg [25] l.length (fun gg s_ wr => ∃ (kk : Nat) (fs : List Int) (v : Value), kk ≤ l.length ∧ l.length - kk ≤ gg ∧ s_ = .int .i64 kk ∧ Aside0 (Below w.heap.size w wr) ∧ Aside0 (wr.heap[gx]? = some (.cells #[v, .func (.func fm) #[] #[]] 117 (0, 0))) ∧ Aside0 ((Kd.int .i64).R 3 wr w.heap.size (fun _ => True) v fs) ∧ Aside0 (fs.length = kk ∧ FsOk fs ∧ costsFrom mx fs (l.drop kk) = costsFrom mx [] l))
    case atStart => exact ⟨0, [], _, Nat.zero_le _, by omega, rfl, HB2, HX, HR0, ⟨rfl, fun c hc => by simp at hc, rfl⟩⟩
    case round =>
      clear HB2 HX HR0 HBX2
      obtain ⟨kk, fs, v, hkk, hg, rfl, HB, BX, HRV, HA⟩ := hrel
      obtain ⟨Av, cv, rfl⟩ := Kd.R_slice HRV.out
      by_cases hlt : kk < l.length
      · have hltz : (kk : Int) < (l.length : Int) := by omega
        have HM := Aside0.mk (getD_mem hlt zFF)
        have HFO := Aside0.mk (FunOk.of (funOk HOK.out hlt))
        have HDR := Aside0.mk (drop_getD l kk hlt zFF)
        obtain ⟨ead, ecs, rfl, _, eK, ecc⟩ := Kd.C_get HC.out zFF (kk : Int) (by omega) (by omega)
        have eK' := eK
        obtain ⟨eA0, ec0, eA1, ec1, eA3, ec3, eA4, ec4, eA5, ec5, rfl, el0, eg0, el1, eg1, el3, eg3, el4, eg4, el5, eg5⟩ := kFF_open6 eK'
        have ex0 := (HB.out.cell (World.block_lt_of_cell? w _ (ecc 0 _ rfl))).trans (ecc 0 _ rfl)
        have ex1 := (HB.out.cell (World.block_lt_of_cell? w _ (ecc 1 _ rfl))).trans (ecc 1 _ rfl)
        have ex2 := (HB.out.cell (World.block_lt_of_cell? w _ (ecc 2 _ rfl))).trans (ecc 2 _ rfl)
        have ex3 := (HB.out.cell (World.block_lt_of_cell? w _ (ecc 3 _ rfl))).trans (ecc 3 _ rfl)
        have ex4 := (HB.out.cell (World.block_lt_of_cell? w _ (ecc 4 _ rfl))).trans (ecc 4 _ rfl)
        have ex5 := (HB.out.cell (World.block_lt_of_cell? w _ (ecc 5 _ rfl))).trans (ecc 5 _ rfl)
        rw [show (kFF).sz = 6 from rfl, Nat.add_zero, Int.toNat_natCast] at ex0
        rw [show (kFF).sz = 6 from rfl, Int.toNat_natCast, add_field _ _ 1 (by omega)] at ex1
        rw [show (kFF).sz = 6 from rfl, Int.toNat_natCast, add_field _ _ 2 (by omega)] at ex2
        rw [show (kFF).sz = 6 from rfl, Int.toNat_natCast, add_field _ _ 3 (by omega)] at ex3
        rw [show (kFF).sz = 6 from rfl, Int.toNat_natCast, add_field _ _ 4 (by omega)] at ex4
        rw [show (kFF).sz = 6 from rfl, Int.toNat_natCast, add_field _ _ 5 (by omega)] at ex5
        clear ecc
        try simp only [Int.toNat_natCast] at ex0 ex1 ex2 ex3 ex4 ex5 eK el0 eg0 el1 eg1 el3 eg3 el4 eg4 el5 eg5
        generalize Yx0 : l.getD kk zFF = x at ex0 ex1 ex2 ex3 ex4 ex5 eK el0 eg0 el1 eg1 el3 eg3 el4 eg4 el5 eg5
        have Yx := Aside0.mk Yx0; clear Yx0
        rw [Yx.out] at HM HFO HDR
        have eL0 := Aside0.mk el0; have eG0 := Aside0.mk eg0; clear el0 eg0
        have eL1 := Aside0.mk el1; have eG1 := Aside0.mk eg1; clear el1 eg1
        have eL3 := Aside0.mk el3; have eG3 := Aside0.mk eg3; clear el3 eg3
        have eL4 := Aside0.mk el4; have eG4 := Aside0.mk eg4; clear el4 eg4
        have eL5 := Aside0.mk el5; have eG5 := Aside0.mk eg5; clear el5 eg5
        clear eK
        have HSB := Aside0.mk (HSM.out x HM.out)
        have HCO := Aside0.mk (show 0 ≤ costL mx fs 0 x.body ∧ costL mx fs 0 x.body ≤ 1073741824 from costL_ok HA.out.2.1 HSB.out 0 (by omega) (by omega))
        have hcost := fun (W : World) (hB : Below w.heap.size w W) (hx : W.heap[gx]? = some (.cells #[.slice Av fs.length cv, .func (.func fm) #[] #[]] 117 (0, 0))) (hr : (Kd.int .i64).R 3 W w.heap.size (fun _ => True) (.slice Av fs.length cv) fs) => cost_calls mx fm egm HAM.out x.body HSB.out fs W eA5 ec5 gx Av cv (Kd.C_below eG5.out hB) hx (Kd.R_reads' hr).2.2 HA.out.2.1 (by rw [HA.out.1]; exact HFO.out.body)
        obtain ⟨r, hr⟩ : ∃ r, costL mx fs 0 x.body = r := ⟨_, rfl⟩
        rw [hr] at hcost HCO
        have HRE := Aside0.mk hr
        clear hr
        go_upto_region 8 with ((with_reducible refine gate_store (t := 35) (p := 10) rfl ?_); refine store_whole rfl rfl 35 _ _ rfl wr.heap.size _ 35 rfl (blk_new _ _) _ rfl rfl rfl (by simp [Value.oneCell']) ?_; intro w2 hb2 hg2; replace BX := Aside0.mk (blk_as BX.out hg2); replace HRV := Aside0.mk (Kd.R_below HRV.out (below_as (Below.refl _ _) hg2)); replace HB := Aside0.mk (below_as HB.out hg2); obtain ⟨ge, hq_⟩ : ∃ g_, g_ = wr.heap.size := ⟨_, rfl⟩; rw [← hq_] at hb2; rw [← hq_]; have BE := Aside0.mk hb2; clear hb2 hg2 hq_; have ce_0 := (blk_cell BE.out 0).trans rfl; have ce_1 := (blk_cell BE.out 1).trans rfl; have ce_2 := (blk_cell BE.out 2).trans rfl; have ce_3 := (blk_cell BE.out 3).trans rfl; have ce_4 := (blk_cell BE.out 4).trans rfl; have ce_5 := (blk_cell BE.out 5).trans rfl; have cx := (blk_cell BX.out 0).trans rfl)
        clear BE
        go_region_law (first | (refine Kd.R_append_step (Kd.int .i64) (w0 := w) w.heap.size (by rfl) (.tmp 33) (.tmp 38) 32 3 (.int .i64 0) 8 rfl HU.out info_int rfl (by decide) (by omega) (.slice Av fs.length cv) fs r [.int .i64 r] (fun _ => True) (fun _ => False) rfl rfl (show (Kd.int .i64).M _ _ _ r [.int .i64 r] from rfl) (fun k hk => hk.elim) (fun _ _ => trivial) HRV_.out HB_.out HB_.out.size (by have := HA.out.1; omega) ?_; intro v1 w6 hr6 hb6 hg6 hat6; obtain ⟨A1, c1, hv1⟩ := Kd.R_slice hr6; rw [show (fs ++ [r]).length = fs.length + 1 by simp] at hv1; subst hv1; have HR6 := Aside0.mk hr6; have HB6 := Aside0.mk hb6; have BX6 := Aside0.mk ((hg6.block gx (blk_lt BX_.out) (fun e => by obtain ⟨cs6, h6⟩ := R_typed HRV_.out _ e.symm; rw [BX_.out] at h6; cases h6)).trans BX_.out); clear hr6 hb6 hg6 hat6; have c6 := (blk_cell BX6.out 0).trans rfl; have f6 := blk_frozen BX6.out 0) | (go_simp; go_at_call 64; refine (hcost _ (below_drew1 HB.out) (blk_drew BX.out) (Kd.R_drew HRV.out)).mono ?_; rintro e w3 ⟨rfl, hb⟩; have BX_ := Aside0.mk (below_blk (blk_drew BX.out) hb); have HRV_ := Aside0.mk (Kd.R_below (Kd.R_drew HRV.out) hb); have HB_ := Aside0.mk (below_step (below_drew1 HB.out) hb); clear hb; have cx' := (blk_cell BX_.out 0).trans rfl; have cxa := fun (ob : Obj) => (blk_cell (blk_alloc BX_.out ob) 0).trans rfl))
        all_goals
          skip
          have BXS := Aside0.mk (blk_put BX6.out 0 (.slice A1 (fs.length + 1) c1) rfl)
          have HRS := Aside0.mk (Kd.R_set HR6.out BX6.out (by decide) 0 (.slice A1 (fs.length + 1) c1))
          have HBS := Aside0.mk (below_set (j := 0) (v := .slice A1 (fs.length + 1) c1) HB6.out LX.out)
          go_wp2_with fail
          go_roundg (l.length - (kk + 1))
          case measure => omega
          case rel => exact ⟨kk + 1, fs ++ [r], _, by omega, by omega, by go_num, HBS, BXS, HRS, ⟨by simp [HA.out.1], fsOk_snoc HA.out.2.1 HCO.out, by rw [← HA.out.2.2, HDR.out, costsFrom, HRE.out]⟩⟩
      · have hltz : ¬ (kk : Int) < (l.length : Int) := by omega
        obtain rfl : kk = l.length := by omega
        obtain ⟨v, hv⟩ : ∃ v : Int, ((l.length - 1 : Nat) : Int) = v := ⟨_, rfl⟩
        have hv0 : 0 ≤ v := by omega
        have hlf : fs.length = l.length := HA.out.1
        have hv1 : v < (fs.length : Int) := by omega
        have hw1 : wrap64 ((fs.length : Int) - 1) = v := by unfold wrap64; omega
        have hw2 : IntKind.i64.wrap ((fs.length : Int) - 1) = v := by rw [wrapEq]; exact hw1
        have hce : costsFrom mx [] l = fs := by rw [← HA.out.2.2, List.drop_length]; rfl
        have HE := Aside0.mk (show AN = fs.getD v.toNat (0 : Int) by
          rw [← HAN.out]
          unfold lastCost
          rw [hce, last_rd0 (m := l.length - 1) (by omega), ← hv]
          rfl)
        have HRC := Aside0.mk (Kd.R_reads' HRV.out).2.2
        clear hce hlf hv hg hkk hlt hpos
        obtain ⟨tad, tcs, rfl, _, tK, tcc⟩ := Kd.C_get HRC.out (0 : Int) v (by omega) (by omega)
        obtain rfl := tK
        have tx0 := ((Below.refl wr.heap.size wr).cell (World.block_lt_of_cell? wr _ (tcc 0 _ rfl))).trans (tcc 0 _ rfl)
        simp only [show (Kd.int .i64).sz = 1 from rfl, Nat.mul_one, Nat.add_zero] at tx0
        clear tcc
        generalize Yt0 : fs.getD v.toNat (0 : Int) = t at tx0
        have Yt := Aside0.mk Yt0; clear Yt0
        rw [Yt.out] at HE
        have cx := (blk_cell BX.out 0).trans rfl
        go_wp2_with fail
        go_still_tail 12, (by kernel_rfl)
        change wpList _ _ _ _ _ (World.drew wr)
        replace HB := Aside0.mk (below_drew1 HB.out)
        clear cx tx0 BX HRV HRC
        generalize World.drew wr = w9 at HB ⊢
        go_wp2_with fail
        go_ret2
        exact ⟨by rw [HE.out]; rfl, HB.out⟩
theorem costF_calls (l : List FF) (hl : FlatSmall l) (w : World) (A : Option Addr) (c : Nat) (hC : kFF.C w A l.length l) :
    Calls Tryz.prog 16 #[.agg #[.slice A l.length c]] w (OfPost true l w) := by
  have hcc := fun (W : World) (hB : Below w.heap.size w W) => bof_calls true 42 greatest_eg greatest_calls l hl W A c (Kd.C_below hC hB)
  unfold OfPost at hcc ⊢
  clear hl hC
  generalize costV true l = cv at hcc ⊢
  generalize errV l = ev at hcc ⊢
  go_enter Tryz.func16, Tryz.ntmps16
  go_wp2_with fail
  refine (hcc _ (below_alloc (Below.refl _ w) _)).mono ?_
  rintro e w1 ⟨rfl, hb⟩
  have HB := Aside0.mk (below_step (below_alloc (Below.refl _ w) _) hb)
  clear hb hcc
  go_wp2_with fail
  go_ret2
  exact ⟨rfl, HB.out⟩
theorem leastF_calls (l : List FF) (hl : FlatSmall l) (w : World) (A : Option Addr) (c : Nat) (hC : kFF.C w A l.length l) :
    Calls Tryz.prog 18 #[.agg #[.slice A l.length c]] w (OfPost false l w) := by
  have hcc := fun (W : World) (hB : Below w.heap.size w W) => bof_calls false 44 none_eg none_calls l hl W A c (Kd.C_below hC hB)
  unfold OfPost at hcc ⊢
  clear hl hC
  generalize costV false l = cv at hcc ⊢
  generalize errV l = ev at hcc ⊢
  go_enter Tryz.func18, Tryz.ntmps18
  go_wp2_with fail
  refine (hcc _ (below_alloc (Below.refl _ w) _)).mono ?_
  rintro e w1 ⟨rfl, hb⟩
  have HB := Aside0.mk (below_step (below_alloc (Below.refl _ w) _) hb)
  clear hb hcc
  go_wp2_with fail
  go_ret2
  exact ⟨rfl, HB.out⟩

end Go.Proofs.YticndoihkfbpoaaGreatDoor
