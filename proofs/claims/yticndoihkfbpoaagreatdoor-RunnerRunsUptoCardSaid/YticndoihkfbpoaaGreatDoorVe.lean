/- Package runner: weigh: whether functions may be run, and what the last one weighs. -/
import Derived.StillTailTactics
import Derived.Test.YticndoihkfbpoaaGreatDoorVd
namespace Go.Proofs.YticndoihkfbpoaaGreatDoor
open Go Go.RowKit Go.Lib Go.Proofs.YticndoihkfbpoaaGreatDoorW.PrintWords Go.Proofs.YticndoihkfbpoaaGreatDoor.PScope
set_option maxRecDepth 100000
set_option linter.unusedSimpArgs false
set_option linter.unusedVariables false
theorem cellsAt_getD (l : List FF) (i : Int) : cellsAt l i = (l.getD i.toNat zFF).cells := by
 unfold cellsAt
 rw [List.getD_eq_getElem?_getD]
 cases l[i.toNat]? <;> rfl
theorem partBad_f1 {l : List FF} {k : Nat} {x : FF} {q : S103} (h : partBad l k x q = false) : 0 ≤ q.f1 ∧ q.f1 < (k : Int) := by
 unfold partBad at h
 simp only [Bool.or_eq_false_iff, decide_eq_false_iff_not] at h
 omega
theorem last_rd0 {ws : List Int} {m : Nat} (h : ws.length = m + 1) : ws.getLastD 0 = rd0 ws (m : Int) := by
 unfold rd0
 rw [List.getLastD_eq_getLast?, List.getLast?_eq_getElem?, List.getD_eq_getElem?_getD, h, Int.toNat_natCast]
 rfl
theorem wsOk_zeros {ts : List Int} (h : WsOk ts) (m : Nat) : WsOk (ts ++ List.replicate m 0) := by
 intro c hc
 rcases List.mem_append.1 hc with hc | hc
 ·exact h c hc
 ·have := List.eq_of_mem_replicate hc
  omega
theorem wrapEq (x : Int) : IntKind.i64.wrap x = wrap64 x := by rw [IntKind.wrap_i64]; first | rfl | (unfold wrap64; rfl) | (unfold wrap64; omega)
theorem made_next (w : World) (o : Obj) (n : Nat) : ARow ((w.alloc o).alloc (.cells (madeCells #[.int .i64 0] n) 3)) ⟨w.heap.size + 1, 0, none⟩ (List.replicate n 0) := by
 have h := ARow.made (w.alloc o) n
 rw [show (w.alloc o).heap.size = w.heap.size + 1 from Array.size_push _] at h
 exact h
theorem weigh1_eg : ∀ args w, (callFunc 68 args).run Tryz.prog w = .ok (.enter 68 args) w := enters_of Tryz.func68 (by kernel_rfl) rfl
theorem weigh1_calls (x : FF) (n : Int) (ge : Nat) (A0 A1 A3 A4 A5 : Option Addr) (c0 c1 c3 c4 c5 : Nat) (W : World) (hB : W.heap[ge]? = some (.cells #[.slice A0 (x.params).length c0, .slice A1 (x.results).length c1, .int .i64 x.cells, .slice A3 (x.flags).length c3, .slice A4 (x.parts).length c4, .slice A5 (x.body).length c5] 35 (0, 0))) :
  Calls Tryz.prog 68 #[.int .i64 n, .pointer (some ⟨ge, 0, none⟩)] W fun e W' => e = .returned (.bool (flagBad x n)) ∧ Below W.heap.size W W' := by
 have x2 := (blk_cell hB 2).trans rfl
 clear hB
 unfold flagBad
 by_cases d0 : n < 0
 ·have e0 : decide (n < 0) = true := decide_eq_true d0
  rw [e0]
  clear d0
  go_enter Tryz.func68, Tryz.ntmps68
  go_wp2_with fail
  go_ret
  exact ⟨rfl, Below.refl _ _⟩
 ·have e0 : decide (n < 0) = false := decide_eq_false d0
  rw [e0]
  clear d0
  go_enter Tryz.func68, Tryz.ntmps68
  go_wp2_with fail
  go_ret
  exact ⟨rfl, Below.refl _ _⟩
def weighW (l : List FF) : Int := if flatOk l then weightAll l else 0
def WeighPost (l : List FF) (w : World) (e : Ending) (w' : World) : Prop := e = .returned (.tuple #[.int .i64 (weighW l), .bool (flatOk l)]) ∧ Below w.heap.size w w'
theorem flat_bad {l : List FF} {k : Nat} (hk : k < l.length) (h : anyBad l k (l.drop k) = anyBad l 0 l) (hb : funBad l k (l.getD k zFF) = true) : flatOk l = false := by
 rw [drop_getD l k hk zFF, anyBad, hb, Bool.true_or] at h
 unfold flatOk
 rw [← h]; rfl
theorem weigh_out {l : List FF} (h : flatOk l = false) : Ending.returned (.tuple #[.int .i64 0, .bool false]) = Ending.returned (.tuple #[.int .i64 (weighW l), .bool (flatOk l)]) := by unfold weighW; rw [h]; rfl
structure WAt (l : List FF) (kk : Nat) (ws ts : List Int) : Prop where
 lw : ws.length = kk
 lt : ts.length = kk
 ow : WsOk ws
 ot : WsOk ts
 sw : wsFrom ws (l.drop kk) = wsFrom [] l
 st : tsFrom ts (l.drop kk) = tsFrom [] l
 ba : anyBad l kk (l.drop kk) = anyBad l 0 l
set_option maxHeartbeats 8000000 in
theorem weigh_calls (l : List FF) (hl : FlatSmall l) (w : World) (A : Option Addr) (c : Nat) (hC : kFF.C w A l.length l) :
  Calls Tryz.prog 45 #[.slice A l.length c] w (WeighPost l w) := by
 unfold WeighPost
 have hmax : l.length ≤ 1099511627744 := hl.len
 have HC := Aside0.mk hC
 have HSM := Aside0.mk hl.body
 have hmf := run_mkfn
 have hmk := run_make_ints l.length (by omega)
 clear hl hC
 go_enter Tryz.func45, Tryz.ntmps45
 go_upto_region 1 with fail
 go_cut [4, 5] from 10 to 15 (fun s4 s5 wx => ∃ aw at_ : Addr, s4 = .slice (some aw) l.length l.length ∧ s5 = .slice (some at_) l.length l.length ∧ Aside0 (Below w.heap.size w wx) ∧ Aside0 (ARow wx aw (List.replicate l.length 0)) ∧ Aside0 (ARow wx at_ (List.replicate l.length 0)) ∧ Aside0 (w.heap.size ≤ aw.block ∧ w.heap.size ≤ at_.block ∧ aw.block ≠ at_.block))
 case first =>
  go_region
  all_goals
   go_wp2_with fail
   go_meet
   case rel =>
    first
    | exact ⟨⟨w.heap.size, 0, none⟩, ⟨w.heap.size + 1, 0, none⟩, rfl, rfl, ⟨(below_alloc (below_alloc (Below.refl _ w) _) _).drew⟩, ⟨((ARow.made _ _).alloc _).drew⟩, ⟨(made_next _ _ _).drew⟩, ⟨by simp⟩⟩
    | exact ⟨⟨w.heap.size + 1, 0, none⟩, ⟨w.heap.size, 0, none⟩, rfl, rfl, ⟨(below_alloc (below_alloc (Below.refl _ w) _) _).drew⟩, ⟨(made_next _ _ _).drew⟩, ⟨((ARow.made _ _).alloc _).drew⟩, ⟨by simp⟩⟩
 case rest =>
 obtain ⟨aw, at_, rfl, rfl, HB, HWR, HTR, HNE⟩ := hcut
 clear hmk
 go_wp2_with fail
 go_loopg [18] l.length (fun gg s_ wr => ∃ (kk : Nat) (ws ts : List Int), kk ≤ l.length ∧ l.length - kk ≤ gg ∧ s_ = .int .i64 kk ∧ Aside0 (Below w.heap.size w wr) ∧ Aside0 (ARow wr aw (ws ++ List.replicate (l.length - kk) 0)) ∧ Aside0 (ARow wr at_ (ts ++ List.replicate (l.length - kk) 0)) ∧ Aside0 (WAt l kk ws ts))
 case atStart => exact ⟨0, [], [], Nat.zero_le _, by omega, rfl, HB, HWR, HTR, ⟨⟨rfl, rfl, fun c hc => by simp at hc, fun c hc => by simp at hc, rfl, rfl, rfl⟩⟩⟩
 case round =>
  clear HB HWR HTR
  obtain ⟨kk, ws, ts, hkk, hg, rfl, HB, HWR, HTR, HA⟩ := hrel
  by_cases hlt : kk < l.length
  ·have hltz : (kk : Int) < (l.length : Int) := by omega
   have HM := Aside0.mk (getD_mem hlt zFF)
   have HBAD := Aside0.mk (flat_bad hlt HA.out.ba)
   have HDR := Aside0.mk (drop_getD l kk hlt zFF)
   obtain ⟨ead, ecs, rfl, _, eK, ecc⟩ := Kd.C_get HC.out zFF (kk : Int) (by omega) (by omega)
   have eK' := eK
   obtain ⟨eA0, ec0, eA1, ec1, eA3, ec3, eA4, ec4, eA5, ec5, rfl, el0, eg0, el1, eg1, el3, eg3, el4, eg4, el5, eg5⟩ := kFF_open6 eK'
   have ex0 := (HB.out.cell (World.block_lt_of_cell? w _ (ecc 0 _ rfl))).trans (ecc 0 _ rfl)
   have ex1 := (HB.out.cell (World.block_lt_of_cell? w _ (ecc 1 _ rfl))).trans (ecc 1 _ rfl)
   have ex2 := (HB.out.cell (World.block_lt_of_cell? w _ (ecc 2 _ rfl))).trans (ecc 2 _ rfl)
   have ex3 := (HB.out.cell (World.block_lt_of_cell? w _ (ecc 3 _ rfl))).trans (ecc 3 _ rfl)
   have ex4 := (HB.out.cell (World.block_lt_of_cell? w _ (ecc 4 _ rfl))).trans (ecc 4 _ rfl)
   have ex5 := (HB.out.cell (World.block_lt_of_cell? w _ (ecc 5 _ rfl))).trans (ecc 5 _ rfl)
   rw [show (kFF).sz = 6 from rfl, Nat.add_zero, Int.toNat_natCast] at ex0
   rw [show (kFF).sz = 6 from rfl, Int.toNat_natCast, add_field _ _ 1 (by omega)] at ex1
   rw [show (kFF).sz = 6 from rfl, Int.toNat_natCast, add_field _ _ 2 (by omega)] at ex2
   rw [show (kFF).sz = 6 from rfl, Int.toNat_natCast, add_field _ _ 3 (by omega)] at ex3
   rw [show (kFF).sz = 6 from rfl, Int.toNat_natCast, add_field _ _ 4 (by omega)] at ex4
   rw [show (kFF).sz = 6 from rfl, Int.toNat_natCast, add_field _ _ 5 (by omega)] at ex5
   clear ecc
   try simp only [Int.toNat_natCast] at ex0 ex1 ex2 ex3 ex4 ex5 eK el0 eg0 el1 eg1 el3 eg3 el4 eg4 el5 eg5
   generalize Yx0 : l.getD kk zFF = x at ex0 ex1 ex2 ex3 ex4 ex5 eK el0 eg0 el1 eg1 el3 eg3 el4 eg4 el5 eg5
   have Yx := Aside0.mk Yx0; clear Yx0
   rw [Yx.out] at HBAD HM HDR
   have eL0 := Aside0.mk el0; have eG0 := Aside0.mk eg0; clear el0 eg0
   have eL1 := Aside0.mk el1; have eG1 := Aside0.mk eg1; clear el1 eg1
   have eL3 := Aside0.mk el3; have eG3 := Aside0.mk eg3; clear el3 eg3
   have eL4 := Aside0.mk el4; have eG4 := Aside0.mk eg4; clear el4 eg4
   have eL5 := Aside0.mk el5; have eG5 := Aside0.mk eg5; clear el5 eg5
   clear eK
   have HSB := Aside0.mk (HSM.out x HM.out)
   have LW := Aside0.mk HWR.out.lt
   have LT := Aside0.mk HTR.out.lt
   have HREP := Aside0.mk (show List.replicate (l.length - kk) (0 : Int) = 0 :: List.replicate (l.length - (kk + 1)) 0 by rw [show l.length - kk = (l.length - (kk + 1)) + 1 by omega, List.replicate_succ])
   have HLW := Aside0.mk (show (ws ++ List.replicate (l.length - kk) (0 : Int)).length = l.length by rw [List.length_append, List.length_replicate, HA.out.lw]; omega)
   have HLT := Aside0.mk (show (ts ++ List.replicate (l.length - kk) (0 : Int)).length = l.length by rw [List.length_append, List.length_replicate, HA.out.lt]; omega)
   go_upto_region 5 with ((with_reducible refine gate_store (t := 35) (p := 7) rfl ?_); refine store_whole rfl rfl 35 _ _ rfl wr.heap.size _ 35 rfl (blk_new _ _) _ rfl rfl rfl (by simp [Value.oneCell']) ?_; intro w2 hb2 hg2; have H0_ := HB.out.size; replace HWR := Aside0.mk (HWR.out.as hg2); replace HTR := Aside0.mk (HTR.out.as hg2); replace HB := Aside0.mk (below_as HB.out hg2); obtain ⟨ge, hq_⟩ : ∃ g_, g_ = wr.heap.size := ⟨_, rfl⟩; rw [← hq_] at hb2; rw [← hq_]; have BE := Aside0.mk hb2; have LBE := Aside0.mk (show w.heap.size ≤ ge by rw [hq_]; exact H0_); have NBE := Aside0.mk (show ge = wr.heap.size from hq_); clear hb2 hg2 hq_; have ce_0 := (blk_cell BE.out 0).trans rfl; have ce_1 := (blk_cell BE.out 1).trans rfl; have ce_2 := (blk_cell BE.out 2).trans rfl; have ce_3 := (blk_cell BE.out 3).trans rfl; have ce_4 := (blk_cell BE.out 4).trans rfl; have ce_5 := (blk_cell BE.out 5).trans rfl; have k0 := (HWR.out.cell kk (by rw [HLW.out]; exact hlt)); have k1 := HWR.out.frozen kk; clear H0_)
   have hbz : (0 : Int) ≤ (kk : Int) := by omega
   go_upto_region 6 with fail
   clear ce_0 ce_1 ce_2 ce_3 ce_4 ce_5
   clear k0 k1
   have HWR1 := Aside0.mk (show ARow (w2.setCell (aw.add kk) (.int .i64 1)) aw (ws ++ 1 :: List.replicate (l.length - (kk + 1)) 0) by have h := HWR.out.set kk 1; rw [HREP.out] at h; have hs := set_mid ws (List.replicate (l.length - (kk + 1)) 0) 0 1; rw [HA.out.lw] at hs; rw [hs] at h; exact h)
   have HTR1 := Aside0.mk (HTR.out.far HWR.out (fun e => HNE.out.2.2 e.symm) kk (.int .i64 1))
   have BE1 := Aside0.mk (HWR.out.blkFar BE.out (by have := LW.out; rw [NBE.out]; omega) kk (.int .i64 1))
   have HB1 := Aside0.mk (HWR.out.belowSet HB.out HNE.out.1 kk (.int .i64 1))
   have NW := Aside0.mk (show ge ≠ aw.block by have := LW.out; rw [NBE.out]; omega)
   have NT := Aside0.mk (show ge ≠ at_.block by have := LT.out; rw [NBE.out]; omega)
   clear HWR HTR BE HB NBE LW LT HLW
   generalize w2.setCell (aw.add kk) (.int .i64 1) = w3 at HWR1 HTR1 BE1 HB1 ⊢
   have hbel := fun (W : World) (hB : Below w.heap.size w W) => below_calls (kk : Int) x.body HSB.out W eA5 ec5 (Kd.C_below eG5.out hB)
   obtain ⟨bb, hbb⟩ : ∃ bb, badL (kk : Int) x.body = bb := ⟨_, rfl⟩
   rw [hbb] at hbel
   have HBL := Aside0.mk hbb
   clear hbb
   by_cases d0 : x.cells < 0
   ·have e0 : decide (x.cells < 0) = true := decide_eq_true d0
    clear d0 hbel
    have ce_0 := (blk_cell BE1.out 0).trans rfl
    have ce_1 := (blk_cell BE1.out 1).trans rfl
    have ce_2 := (blk_cell BE1.out 2).trans rfl
    have ce_3 := (blk_cell BE1.out 3).trans rfl
    have ce_4 := (blk_cell BE1.out 4).trans rfl
    have ce_5 := (blk_cell BE1.out 5).trans rfl
    go_wp2_with fail
    go_ret2
    exact ⟨weigh_out (HBAD.out (by unfold funBad headBad; simp only [e0, Bool.true_or, Bool.or_true, Bool.false_or, Bool.or_false])), HB1.out⟩
   have e0 : decide (x.cells < 0) = false := decide_eq_false d0
   have D0 := Aside0.mk d0
   clear d0
   by_cases d1 : x.cells > 1000
   ·have e1 : decide (x.cells > 1000) = true := decide_eq_true d1
    clear d1 hbel
    have ce_0 := (blk_cell BE1.out 0).trans rfl
    have ce_1 := (blk_cell BE1.out 1).trans rfl
    have ce_2 := (blk_cell BE1.out 2).trans rfl
    have ce_3 := (blk_cell BE1.out 3).trans rfl
    have ce_4 := (blk_cell BE1.out 4).trans rfl
    have ce_5 := (blk_cell BE1.out 5).trans rfl
    go_wp2_with fail
    go_ret2
    exact ⟨weigh_out (HBAD.out (by unfold funBad headBad; simp only [e0, e1, Bool.true_or, Bool.or_true, Bool.false_or, Bool.or_false])), HB1.out⟩
   have e1 : decide (x.cells > 1000) = false := decide_eq_false d1
   have D1 := Aside0.mk d1
   clear d1
   have ce_0 := (blk_cell BE1.out 0).trans rfl
   have ce_1 := (blk_cell BE1.out 1).trans rfl
   have ce_2 := (blk_cell BE1.out 2).trans rfl
   have ce_3 := (blk_cell BE1.out 3).trans rfl
   have ce_4 := (blk_cell BE1.out 4).trans rfl
   have ce_5 := (blk_cell BE1.out 5).trans rfl
   go_wp2_with fail
   refine (hbel _ HB1.out).mono ?_
   rintro e w5 ⟨rfl, hb⟩
   clear hbel ce_0 ce_1 ce_2 ce_3 ce_4 ce_5
   replace HWR1 := Aside0.mk (HWR1.out.below hb)
   replace HTR1 := Aside0.mk (HTR1.out.below hb)
   replace BE1 := Aside0.mk (below_blk BE1.out hb)
   replace HB1 := Aside0.mk (below_step HB1.out hb)
   clear hb
   cases bb with
   | true =>
    have ce_0 := (blk_cell BE1.out 0).trans rfl
    have ce_1 := (blk_cell BE1.out 1).trans rfl
    have ce_2 := (blk_cell BE1.out 2).trans rfl
    have ce_3 := (blk_cell BE1.out 3).trans rfl
    have ce_4 := (blk_cell BE1.out 4).trans rfl
    have ce_5 := (blk_cell BE1.out 5).trans rfl
    go_wp2_with fail
    go_ret2
    exact ⟨weigh_out (HBAD.out (by unfold funBad headBad; simp only [e0, e1, HBL.out, Bool.true_or, Bool.or_true, Bool.false_or, Bool.or_false])), HB1.out⟩
   | false =>
   have ce_0 := (blk_cell BE1.out 0).trans rfl
   have ce_1 := (blk_cell BE1.out 1).trans rfl
   have ce_2 := (blk_cell BE1.out 2).trans rfl
   have ce_3 := (blk_cell BE1.out 3).trans rfl
   have ce_4 := (blk_cell BE1.out 4).trans rfl
   have ce_5 := (blk_cell BE1.out 5).trans rfl
   go_wp2_with fail
   refine (ct_int 68 #[.pointer (some ⟨ge, 0, none⟩)] weigh1_eg _ _ _ ec3 x.flags (Kd.C_below eG3.out HB1.out) (fun i => flagBad x (x.flags.getD i (0 : Int))) (fun _ W2 => Below w5.heap.size w5 W2) (fun _ W2 => Below w5.heap.size w5 W2) (fun _ _ h => h) ?_ (Below.refl _ _)).mono ?_
   ·intro i W2 hi hI
    refine (weigh1_calls x _ ge eA0 eA1 _ eA4 eA5 ec0 ec1 ec3 ec4 ec5 W2 (below_blk BE1.out hI)).mono ?_
    rintro e W3 ⟨rfl, hb3⟩
    exact ⟨rfl, fun _ => below_step hI hb3, fun _ => below_step hI hb3⟩
   intro e w6 hp
   obtain ⟨rfl, hb⟩ := CtPost.any (q := flagBad x) (z := (0 : Int)) hp
   clear hp ce_0 ce_1 ce_2 ce_3 ce_4 ce_5
   replace HWR1 := Aside0.mk (HWR1.out.below hb)
   replace HTR1 := Aside0.mk (HTR1.out.below hb)
   replace BE1 := Aside0.mk (below_blk BE1.out hb)
   replace HB1 := Aside0.mk (below_step HB1.out hb)
   clear hb
   obtain ⟨fb, hfb⟩ : ∃ fb, x.flags.any (flagBad x) = fb := ⟨_, rfl⟩
   rw [hfb]
   have HFB := Aside0.mk hfb
   clear hfb
   cases fb with
   | true =>
    have ce_0 := (blk_cell BE1.out 0).trans rfl
    have ce_1 := (blk_cell BE1.out 1).trans rfl
    have ce_2 := (blk_cell BE1.out 2).trans rfl
    have ce_3 := (blk_cell BE1.out 3).trans rfl
    have ce_4 := (blk_cell BE1.out 4).trans rfl
    have ce_5 := (blk_cell BE1.out 5).trans rfl
    go_wp2_with fail
    go_ret2
    exact ⟨weigh_out (HBAD.out (by unfold funBad headBad; simp only [e0, e1, HFB.out, Bool.true_or, Bool.or_true, Bool.false_or, Bool.or_false])), HB1.out⟩
   | false =>
   have ce_0 := (blk_cell BE1.out 0).trans rfl
   have ce_1 := (blk_cell BE1.out 1).trans rfl
   have ce_2 := (blk_cell BE1.out 2).trans rfl
   have ce_3 := (blk_cell BE1.out 3).trans rfl
   have ce_4 := (blk_cell BE1.out 4).trans rfl
   have ce_5 := (blk_cell BE1.out 5).trans rfl
   go_wp2_with fail
   clear ce_0 ce_1 ce_2 ce_3 ce_4 ce_5
   go_loopg [48] x.parts.length (fun gg s_ wr => ∃ (jj : Nat) (cur : Int), jj ≤ x.parts.length ∧ x.parts.length - jj ≤ gg ∧ s_ = .int .i64 jj ∧ Aside0 (Below w.heap.size w wr) ∧ Aside0 (ARow wr aw (ws ++ cur :: List.replicate (l.length - (kk + 1)) 0)) ∧ Aside0 (ARow wr at_ (ts ++ List.replicate (l.length - kk) (0 : Int))) ∧ Aside0 (wr.heap[ge]? = some (.cells #[.slice eA0 (x.params).length ec0, .slice eA1 (x.results).length ec1, .int .i64 x.cells, .slice eA3 (x.flags).length ec3, .slice eA4 (x.parts).length ec4, .slice eA5 (x.body).length ec5] 35 (0, 0))) ∧ Aside0 (0 ≤ cur ∧ cur ≤ 1001) ∧ Aside0 (wOf (rd0 ws) cur (x.parts.drop jj) = wOf (rd0 ws) 1 x.parts) ∧ Aside0 (∀ j, j < jj → partBad l kk x (x.parts.getD j z103) = false))
   case atStart => exact ⟨0, 1, Nat.zero_le _, by omega, rfl, HB1, HWR1, HTR1, BE1, ⟨by omega⟩, ⟨rfl⟩, ⟨fun j hj => absurd hj (Nat.not_lt_zero _)⟩⟩
   case round =>
    clear HB1 HWR1 HTR1 BE1
    obtain ⟨jj, cur, hjj, hgj, rfl, HB, HWR1, HTR1, BE1, HCU, HWO, HPN⟩ := hrel
    have hpm : x.parts.length ≤ 9223372036854775807 := (eG4.out).2.1
    by_cases hltj : jj < x.parts.length
    ·have hltzj : (jj : Int) < (x.parts.length : Int) := by omega
     have HW1 := Aside0.mk (show wOf (rd0 ws) (min (cur + rd0 ws (x.parts.getD jj z103).f1) 1001) (x.parts.drop (jj + 1)) = wOf (rd0 ws) 1 x.parts by rw [← HWO.out, drop_getD x.parts jj hltj z103, wOf])
     have HPT := Aside0.mk (any_getD_true x.parts (partBad l kk x) z103 jj hltj)
     obtain ⟨pad, pcs, rfl, _, pK, pcc⟩ := Kd.C_get eG4.out z103 (jj : Int) (by omega) (by omega)
     have pK' := pK
     obtain rfl := k103_open pK'
     have px0 := (HB.out.cell (World.block_lt_of_cell? w _ (pcc 0 _ rfl))).trans (pcc 0 _ rfl)
     have px1 := (HB.out.cell (World.block_lt_of_cell? w _ (pcc 1 _ rfl))).trans (pcc 1 _ rfl)
     rw [show (kPt).sz = 2 from rfl, Nat.add_zero, Int.toNat_natCast] at px0
     rw [show (kPt).sz = 2 from rfl, Int.toNat_natCast, add_field _ _ 1 (by omega)] at px1
     clear pcc
     try simp only [Int.toNat_natCast] at px0 px1 pK
     generalize Yq0 : x.parts.getD jj z103 = q at px0 px1 pK
     have Yq := Aside0.mk Yq0; clear Yq0
     rw [Yq.out] at HW1 HPT
     clear pK
     have LW := Aside0.mk HWR1.out.lt
     have LT := Aside0.mk HTR1.out.lt
     go_upto_region 13 with ((with_reducible refine gate_store (t := 103) (p := 9) rfl ?_); refine store_whole rfl rfl 103 _ _ rfl wr.heap.size _ 103 rfl (blk_new _ _) _ rfl rfl rfl (by simp [Value.oneCell']) ?_; intro w2 hb2 hg2; have H0_ := HB.out.size; replace BE1 := Aside0.mk (blk_as BE1.out hg2); replace HWR1 := Aside0.mk (HWR1.out.as hg2); replace HTR1 := Aside0.mk (HTR1.out.as hg2); replace HB := Aside0.mk (below_as HB.out hg2); obtain ⟨gp, hq_⟩ : ∃ g_, g_ = wr.heap.size := ⟨_, rfl⟩; rw [← hq_] at hb2; rw [← hq_]; have BP := Aside0.mk hb2; have LBP := Aside0.mk (show w.heap.size ≤ gp by rw [hq_]; exact H0_); have NBP := Aside0.mk (show gp = wr.heap.size from hq_); clear hb2 hg2 hq_; have cp_0 := (blk_cell BP.out 0).trans rfl; have cp_1 := (blk_cell BP.out 1).trans rfl; have ce_0 := (blk_cell BE1.out 0).trans rfl; have ce_1 := (blk_cell BE1.out 1).trans rfl; have ce_2 := (blk_cell BE1.out 2).trans rfl; have ce_3 := (blk_cell BE1.out 3).trans rfl; have ce_4 := (blk_cell BE1.out 4).trans rfl; have ce_5 := (blk_cell BE1.out 5).trans rfl; clear H0_)
     go_cut [86] from 52 to 85 (fun c wx => c = .bool (partBad l kk x q) ∧ ∃ nq, wx = World.drewN w2 nq)
     case first =>
      by_cases g0 : q.f1 < 0
      ·have f0 : decide (q.f1 < 0) = true := decide_eq_true g0
       clear g0
       go_quiet (fail)
       go_wp2_with fail
       go_meet
       case rel => exact ⟨by unfold partBad; simp only [f0, Bool.true_or, Bool.or_true, Bool.false_or, Bool.or_false], _, rfl⟩
      have f0 : decide (q.f1 < 0) = false := decide_eq_false g0
      by_cases g1 : q.f1 ≥ (kk : Int)
      ·have f1 : decide (q.f1 ≥ (kk : Int)) = true := decide_eq_true g1
       clear g1
       go_quiet (fail)
       go_wp2_with fail
       go_meet
       case rel => exact ⟨by unfold partBad; simp only [f0, f1, Bool.true_or, Bool.or_true, Bool.false_or, Bool.or_false], _, rfl⟩
      have f1 : decide (q.f1 ≥ (kk : Int)) = false := decide_eq_false g1
      by_cases g2 : q.f0 < 0
      ·have f2 : decide (q.f0 < 0) = true := decide_eq_true g2
       clear g2
       go_quiet (fail)
       go_wp2_with fail
       go_meet
       case rel => exact ⟨by unfold partBad; simp only [f0, f1, f2, Bool.true_or, Bool.or_true, Bool.false_or, Bool.or_false], _, rfl⟩
      have f2 : decide (q.f0 < 0) = false := decide_eq_false g2
      by_cases g3 : q.f0 > x.cells
      ·have f3 : decide (q.f0 > x.cells) = true := decide_eq_true g3
       clear g3
       go_quiet (fail)
       go_wp2_with fail
       go_meet
       case rel => exact ⟨by unfold partBad; simp only [f0, f1, f2, f3, Bool.true_or, Bool.or_true, Bool.false_or, Bool.or_false], _, rfl⟩
      have f3 : decide (q.f0 > x.cells) = false := decide_eq_false g3
      have hi0 : 0 ≤ q.f1 := by omega
      have hi1 : q.f1 < (l.length : Int) := by omega
      have hw1 : wrap64 (x.cells - q.f0) = x.cells - q.f0 := by have := D0.out; have := D1.out; unfold wrap64; omega
      clear g0 g1 g2 g3
      obtain ⟨had, hcs, heq_, _, hK, hcc⟩ := Kd.C_get HC.out zFF q.f1 (by omega) (by omega)
      injection heq_ with heq_
      subst heq_
      have hK' := hK
      obtain ⟨hA0, hc0, hA1, hc1, hA3, hc3, hA4, hc4, hA5, hc5, rfl, hl0, hg0, hl1, hg1, hl3, hg3, hl4, hg4, hl5, hg5⟩ := kFF_open6 hK'
      have hx0 := (HB.out.cell (World.block_lt_of_cell? w _ (hcc 0 _ rfl))).trans (hcc 0 _ rfl)
      have hx1 := (HB.out.cell (World.block_lt_of_cell? w _ (hcc 1 _ rfl))).trans (hcc 1 _ rfl)
      have hx2 := (HB.out.cell (World.block_lt_of_cell? w _ (hcc 2 _ rfl))).trans (hcc 2 _ rfl)
      have hx3 := (HB.out.cell (World.block_lt_of_cell? w _ (hcc 3 _ rfl))).trans (hcc 3 _ rfl)
      have hx4 := (HB.out.cell (World.block_lt_of_cell? w _ (hcc 4 _ rfl))).trans (hcc 4 _ rfl)
      have hx5 := (HB.out.cell (World.block_lt_of_cell? w _ (hcc 5 _ rfl))).trans (hcc 5 _ rfl)
      rw [show (kFF).sz = 6 from rfl, Nat.add_zero] at hx0
      rw [show (kFF).sz = 6 from rfl, add_field _ _ 1 (by omega)] at hx1
      rw [show (kFF).sz = 6 from rfl, add_field _ _ 2 (by omega)] at hx2
      rw [show (kFF).sz = 6 from rfl, add_field _ _ 3 (by omega)] at hx3
      rw [show (kFF).sz = 6 from rfl, add_field _ _ 4 (by omega)] at hx4
      rw [show (kFF).sz = 6 from rfl, add_field _ _ 5 (by omega)] at hx5
      clear hcc
      generalize Yy0 : l.getD q.f1.toNat zFF = y at hx0 hx1 hx2 hx3 hx4 hx5 hK hl0 hg0 hl1 hg1 hl3 hg3 hl4 hg4 hl5 hg5
      have Yy := Aside0.mk Yy0; clear Yy0
      have HY := Aside0.mk (show cellsAt l q.f1 = y.cells by rw [cellsAt_getD, Yy.out])
      clear hK
      by_cases g4 : y.cells > x.cells - q.f0
      ·have f4 : decide (y.cells > x.cells - q.f0) = true := decide_eq_true g4
       clear g4
       go_quiet (fail)
       go_wp2_with fail
       go_meet
       case rel => exact ⟨by unfold partBad; simp only [f0, f1, f2, f3, HY.out, f4, Bool.true_or, Bool.or_true, Bool.false_or, Bool.or_false], _, rfl⟩
      have f4 : decide (y.cells > x.cells - q.f0) = false := decide_eq_false g4
      clear g4
      go_quiet (fail)
      go_wp2_with fail
      go_meet
      case rel => exact ⟨by unfold partBad; simp only [f0, f1, f2, f3, HY.out, f4, Bool.true_or, Bool.or_true, Bool.false_or, Bool.or_false], _, rfl⟩
     case rest =>
     obtain ⟨rfl, nq, rfl⟩ := hcut
     have hd := pw_below_drewN (Below.refl w2.heap.size w2) nq
     clear cp_0 cp_1 ce_0 ce_1 ce_2 ce_3 ce_4 ce_5
     replace HB := Aside0.mk (below_step HB.out hd)
     replace HWR1 := Aside0.mk (HWR1.out.below hd)
     replace HTR1 := Aside0.mk (HTR1.out.below hd)
     replace BE1 := Aside0.mk (below_blk BE1.out hd)
     replace BP := Aside0.mk (below_blk BP.out hd)
     clear hd
     generalize World.drewN w2 nq = w8 at HB HWR1 HTR1 BE1 BP ⊢
     obtain ⟨pb, hpb⟩ : ∃ pb, partBad l kk x q = pb := ⟨_, rfl⟩
     rw [hpb]
     have HPB := Aside0.mk hpb
     clear hpb
     cases pb with
     | true =>
      go_wp2_with fail
      go_ret2
      exact ⟨weigh_out (HBAD.out (by unfold funBad; rw [HPT.out HPB.out, Bool.or_true])), HB.out⟩
     | false =>
     have hpq := partBad_f1 HPB.out
     have hi0 : 0 ≤ q.f1 := hpq.1
     have hi1 : q.f1 < (l.length : Int) := by omega
     have HQ := Aside0.mk hpq
     clear hpq
     have HRO := Aside0.mk (HA.out.ow.g q.f1)
     have k0 : w8.cell? (aw.add kk) = some (.int .i64 cur) := by have h := HWR1.out.cell kk (by simp only [List.length_append, List.length_cons, List.length_replicate, HA.out.lw]; omega); have h2 := rd0_mid ws (List.replicate (l.length - (kk + 1)) 0) cur; rw [HA.out.lw] at h2; rw [h2] at h; exact h
     have k1 := HWR1.out.frozen kk
     have k2 : w8.cell? (aw.add q.f1.toNat) = some (.int .i64 (rd0 ws q.f1)) := by have h := HWR1.out.cell q.f1.toNat (by have := HQ.out; simp only [List.length_append, List.length_cons, List.length_replicate, HA.out.lw]; omega); rw [show ((q.f1.toNat : Nat) : Int) = q.f1 by have := HQ.out.1; omega, rd0_left ws _ _ (by have := HQ.out; rw [HA.out.lw]; omega)] at h; exact h
     obtain ⟨r, hr⟩ : ∃ r, rd0 ws q.f1 = r := ⟨_, rfl⟩
     rw [hr] at HW1 k2 HRO
     clear hr
     have cp_0 := (blk_cell BP.out 0).trans rfl
     have cp_1 := (blk_cell BP.out 1).trans rfl
     go_wp2_with fail
     go_still_tail 14, (by kernel_rfl)
     change wpList _ _ _ _ _ (World.drew w8)
     replace HB := Aside0.mk (below_drew1 HB.out)
     replace HWR1 := Aside0.mk HWR1.out.drew
     replace HTR1 := Aside0.mk HTR1.out.drew
     replace BE1 := Aside0.mk (blk_drew BE1.out)
     have k3 : (World.drew w8).cell? (aw.add kk) = some (.int .i64 cur) := k0
     have k4 : (World.drew w8).frozen? (aw.add kk) = false := k1
     clear k0 k1 k2 cp_0 cp_1 BP
     have hw1 : wrap64 (cur + r) = cur + r := by have := HCU.out; have := HRO.out; unfold wrap64; omega
     generalize World.drew w8 = w9 at HB HWR1 HTR1 BE1 k3 k4 ⊢
     go_wp2_with fail
     try rw [hw1]
     clear hw1 k3 k4
     go_roundg (x.parts.length - (jj + 1))
     case measure => omega
     case rel =>
      refine ⟨jj + 1, min (cur + r) 1001, by omega, by omega, by go_num, ⟨HWR1.out.belowSet HB.out HNE.out.1 kk _⟩, ⟨?_⟩, ⟨HTR1.out.far HWR1.out (fun e => HNE.out.2.2 e.symm) kk _⟩, ⟨HWR1.out.blkFar BE1.out NW.out kk _⟩, ⟨by have := HCU.out; have := HRO.out; omega⟩, HW1, ⟨fun j hj => ?_⟩⟩
      ·have h := HWR1.out.set kk (min (cur + r) 1001)
       have hs := set_mid ws (List.replicate (l.length - (kk + 1)) 0) cur (min (cur + r) 1001)
       rw [HA.out.lw] at hs
       rw [hs] at h
       exact h
      ·by_cases e : j = jj
       ·subst e; rw [Yq.out]; exact HPB.out
       ·exact HPN.out j (by omega)
    ·have hltzj : ¬ (jj : Int) < (x.parts.length : Int) := by omega
     obtain rfl : jj = x.parts.length := by omega
     have HWE := Aside0.mk (show wOf (rd0 ws) 1 x.parts = cur by have h := HWO.out; rw [List.drop_length, wOf] at h; exact h.symm)
     have HPA := Aside0.mk (any_getD_false x.parts (partBad l kk x) z103 HPN.out)
     have HFB2 := Aside0.mk (show funBad l kk x = false by unfold funBad headBad; rw [e0, e1, HBL.out, HFB.out, HPA.out]; rfl)
     clear HPN HWO hgj hjj HPA HFB
     have hOT : WsOk (ts ++ List.replicate (l.length - kk) (0 : Int)) := wsOk_zeros HA.out.ot _
     have HR := Aside0.mk (takL_ok HA.out.ot.g HSB.out 0 (by omega) (by omega))
     have hst := fun (W : World) (hB : Below w.heap.size w W) (hT : ARow W at_ (ts ++ List.replicate (l.length - kk) (0 : Int))) => steps_calls x.body HSB.out (ts ++ List.replicate (l.length - kk) (0 : Int)) W eA5 ec5 (some at_) l.length (Kd.C_below eG5.out hB) (hT.row (by rw [HLT.out]; omega)) hOT (badL_le (by rw [HLT.out]; omega) HSB.out HBL.out)
     rw [HLT.out, rd0_zeros] at hst
     have HTO := Aside0.mk hOT
     clear hOT
     obtain ⟨r, hr⟩ : ∃ r, takL (rd0 ts) 0 x.body = r := ⟨_, rfl⟩
     rw [hr] at hst HR
     have HRV := Aside0.mk hr
     clear hr e0 e1
     have ce_0 := (blk_cell BE1.out 0).trans rfl
     have ce_1 := (blk_cell BE1.out 1).trans rfl
     have ce_2 := (blk_cell BE1.out 2).trans rfl
     have ce_3 := (blk_cell BE1.out 3).trans rfl
     have ce_4 := (blk_cell BE1.out 4).trans rfl
     have ce_5 := (blk_cell BE1.out 5).trans rfl
     go_wp2_with fail
     refine (hst _ HB.out HTR1.out).mono ?_
     rintro e w7 ⟨rfl, hb⟩
     clear hst ce_0 ce_1 ce_2 ce_3 ce_4 ce_5
     replace HWR1 := Aside0.mk (HWR1.out.below hb)
     replace HTR1 := Aside0.mk (HTR1.out.below hb)
     replace HB := Aside0.mk (below_step HB.out hb)
     clear hb BE1
     have hw1 : wrap64 (1 + r) = 1 + r := by have := HR.out; unfold wrap64; omega
     have k0 := HTR1.out.cell kk (by rw [HLT.out]; exact hlt)
     have k1 := HTR1.out.frozen kk
     go_wp2_with fail
     try rw [hw1]
     clear hw1 k0 k1
     go_roundg (l.length - (kk + 1))
     case measure => omega
     case rel =>
      refine ⟨kk + 1, ws ++ [cur], ts ++ [1 + r], by omega, by omega, by go_num, ⟨HTR1.out.belowSet HB.out HNE.out.2.1 kk _⟩, ⟨?_⟩, ⟨?_⟩, ⟨?_⟩⟩
      ·have h := HWR1.out.far HTR1.out HNE.out.2.2 kk (.int .i64 (1 + r))
       rw [List.append_assoc, List.singleton_append]
       exact h
      ·have h := HTR1.out.set kk (1 + r)
       rw [HREP.out] at h
       have hs := set_mid ts (List.replicate (l.length - (kk + 1)) 0) 0 (1 + r)
       rw [HA.out.lt] at hs
       rw [hs] at h
       rw [List.append_assoc, List.singleton_append]
       exact h
      ·refine ⟨by simp [HA.out.lw], by simp [HA.out.lt], HA.out.ow.snoc HCU.out.1 HCU.out.2, HA.out.ot.snoc (by have := HR.out; omega) (by have := HR.out; omega), ?_, ?_, ?_⟩
       ·rw [← HA.out.sw, HDR.out, wsFrom, HWE.out]
       ·rw [← HA.out.st, HDR.out, tsFrom, HRV.out]
       ·rw [← HA.out.ba, HDR.out, anyBad, HFB2.out, Bool.false_or]
  ·have hltz : ¬ (kk : Int) < (l.length : Int) := by omega
   obtain rfl : kk = l.length := by omega
   clear hg hkk hlt
   have HBA := Aside0.mk (show anyBad l 0 l = false by rw [← HA.out.ba, List.drop_length]; rfl)
   have HW2 := Aside0.mk (show wsFrom [] l = ws by rw [← HA.out.sw, List.drop_length]; rfl)
   have HT2 := Aside0.mk (show tsFrom [] l = ts by rw [← HA.out.st, List.drop_length]; rfl)
   by_cases h0 : l.length = 0
   ·have y0 : ((l.length : Int) == 0) = true := by rw [h0]; rfl
    have HF := Aside0.mk (show flatOk l = false by unfold flatOk; rw [h0]; simp)
    clear h0
    go_wp2_with fail
    go_ret2
    exact ⟨weigh_out HF.out, HB.out⟩
   ·have y0 : ((l.length : Int) == 0) = false := beq_eq_false_iff_ne.2 (by omega)
    have HF := Aside0.mk (show flatOk l = true by unfold flatOk; rw [HBA.out, decide_eq_true (show 0 < l.length by omega)]; rfl)
    obtain ⟨m, hm⟩ : ∃ m, l.length = m + 1 := ⟨l.length - 1, by omega⟩
    obtain ⟨v, hv⟩ : ∃ v : Int, (m : Int) = v := ⟨_, rfl⟩
    have hvn : v.toNat = m := by omega
    have hmz : v < (l.length : Int) := by omega
    have hm0 : (0 : Int) ≤ v := by omega
    have hw1 : wrap64 ((l.length : Int) - 1) = v := by unfold wrap64; omega
    have hw2 : IntKind.i64.wrap ((l.length : Int) - 1) = v := by rw [wrapEq]; exact hw1
    have k0 := HWR.out.cell m (by rw [List.length_append, List.length_replicate, HA.out.lw]; omega)
    have k1 := HTR.out.cell m (by rw [List.length_append, List.length_replicate, HA.out.lt]; omega)
    rw [rd0_zeros] at k0 k1
    have HWM := Aside0.mk (show weighW l = max (rd0 ws (m : Int)) (rd0 ts (m : Int)) by
     unfold weighW weightAll
     rw [HF.out, if_pos rfl, HW2.out, HT2.out, last_rd0 (by rw [HA.out.lw, hm]), last_rd0 (by rw [HA.out.lt, hm])])
    generalize rd0 ws (m : Int) = r1 at k0 HWM
    generalize rd0 ts (m : Int) = r2 at k1 HWM
    rw [← hvn] at k0 k1
    clear hm h0 hv hvn
    go_wp2_with fail
    go_still_tail 12, (by kernel_rfl)
    change wpList _ _ _ _ _ (World.drew wr)
    have HB2 := Aside0.mk (below_drew1 HB.out)
    clear HB HWR HTR k0 k1
    generalize World.drew wr = w9 at HB2 ⊢
    go_wp2_with fail
    go_ret2
    exact ⟨by rw [HF.out, HWM.out]; rfl, HB2.out⟩
end Go.Proofs.YticndoihkfbpoaaGreatDoor
