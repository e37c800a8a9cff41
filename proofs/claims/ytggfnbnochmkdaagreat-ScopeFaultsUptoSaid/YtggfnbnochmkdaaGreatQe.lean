/- JOINED of 3 texts: The reference: which items may be. The reference: which programs may be, but for their bounds. The reference: how many expressions there are in one, and how deep one is. -/
import Derived.Test.YtggfnbnochmkdaaGreatQa
namespace Go.Proofs.YtggfnbnochmkdaaGreat
open Go Go.RowKit Go.Lib Go.Proofs.YtggfnbnochmkdaaGreatW.PrintWords Go.Proofs.YtggfnbnochmkdaaGreat.PScope
set_option maxRecDepth 100000
set_option linter.unusedSimpArgs false
set_option linter.unusedVariables false
def rwayB (made : Bool) (y : S93) : Bool := conB made y.f1 && rexprB made y.f0
def rstateB (made : Bool) (s : S65) : Bool := conB made s.f0 && (decide ((s.f1.length : Int) ≤ 24) && (decide ((s.f2.length : Int) ≤ 4) && (s.f1.all (reqB made) && s.f2.all (rwayB made))))
def ritemB (made : Bool) (x : S47) : Bool := if x.f1.length = 0 then reqB made x.f0 else (((x.f0.f0.length : Int) == 0) && (rzeroB x.f0.f1 && (decide ((x.f1.length : Int) ≤ 8) && x.f1.all (rstateB made))))
set_option maxHeartbeats 16000000 in
theorem ritem_calls (made : Bool) (x : S47) (w : World) (csx : List Value) (hK : k47.K w x csx) :
   Calls Tryz.prog 44 #[.agg csx.toArray, .bool made] w fun e w' => e = .returned (.bool (ritemB made x)) ∧ Below w.heap.size w w' := by
 obtain ⟨A0, c0, A4, c4, A5, c5, A6, c6, rfl, l0, g0, l4, g4, l5, g5, l6, g6⟩ := k47_open hK
 have L0 := Aside0.mk l0; have G0 := Aside0.mk g0; clear l0 g0
 have L4 := Aside0.mk l4; have G4 := Aside0.mk g4; clear l4 g4
 have L5 := Aside0.mk l5; have G5 := Aside0.mk g5; clear l5 g5
 have L6 := Aside0.mk l6; have G6 := Aside0.mk g6; clear l6 g6
 clear hK
 have HB := Aside0.mk (Below.refl w.heap.size w)
 have hu0 := Tryz.underlying42
 have hu1 := Tryz.underlying44
 have hu2 := Tryz.underlying93
 have hu3 := Tryz.underlying65
 have hu4 := Tryz.underlying47
 by_cases e0 : x.f1.length = 0
 · have t0 : ((x.f1.length : Int) == 0) = true := by rw [e0]; rfl
   have HF := Aside0.mk (show ritemB made x = reqB made x.f0 from if_pos e0)
   have h1 := fun (W : World) (hB : Below w.heap.size w W) => req_calls made x.f0 W _ (k44_mk W x.f0 L0.out (Kd.C_below G0.out hB) L4.out (Kd.C_below G4.out hB) L5.out (Kd.C_below G5.out hB))
   clear e0
   go_enter Tryz.func44, Tryz.ntmps44
   go_wp2_with ((with_reducible refine gate_dst (N := 2) rfl ?_); refine box_event ?hg (N := 2) ?hd (cs := #[.slice A0 (x.f0.f0).length c0, .int .i64 x.f0.f1.f0, .string x.f0.f1.f1, .int .i64 x.f0.f1.f2, .slice A4 (x.f0.f1.f3).length c4, .slice A5 (x.f0.f1.f4).length c5, .slice A6 (x.f1).length c6]) (t := 47) ?hr ?_; (case hd => rfl); (case hg => rfl); (case hr => first | (go_simp; done) | (go_simp; rfl)); intro g2 hg_ w_ hbox hb; have B2 := Aside0.mk hbox; have LB2 := Aside0.mk ((by rw [hg_]; exact below_size HB.out) : w.heap.size ≤ g2); replace HB := Aside0.mk (below_step HB.out hb); clear hb hbox hg_; have c2_0 := (blk_cell B2.out 0).trans rfl; have c2_1 := (blk_cell B2.out 1).trans rfl; have c2_2 := (blk_cell B2.out 2).trans rfl; have c2_3 := (blk_cell B2.out 3).trans rfl; have c2_4 := (blk_cell B2.out 4).trans rfl; have c2_5 := (blk_cell B2.out 5).trans rfl; have c2_6 := (blk_cell B2.out 6).trans rfl)
   refine (h1 _ HB.out).mono ?_
   rintro e_ w5 ⟨rfl, hb⟩
   replace HB := Aside0.mk (below_step HB.out hb)
   clear hb h1 B2 c2_0 c2_1 c2_2 c2_3 c2_4 c2_5 c2_6
   go_wp2_with fail
   go_ret
   exact ⟨by rw [HF.out]; rfl, HB.out⟩
 have t0 : ((x.f1.length : Int) == 0) = false := beq_eq_false_iff_ne.2 (by omega)
 have HF := Aside0.mk (show ritemB made x = (((x.f0.f0.length : Int) == 0) && (rzeroB x.f0.f1 && (decide ((x.f1.length : Int) ≤ 8) && x.f1.all (rstateB made)))) from if_neg e0)
 clear e0
 have hz := fun (W : World) (hB : Below w.heap.size w W) => rzero_calls x.f0.f1 W _ (k42_mk W x.f0.f1 L4.out (Kd.C_below G4.out hB) L5.out (Kd.C_below G5.out hB))
 generalize rzeroB x.f0.f1 = zb at hz HF
 go_enter Tryz.func44, Tryz.ntmps44
 by_cases d0 : (x.f0.f0.length : Int) > 0
 · rw [show ((x.f0.f0.length : Int) == 0) = false from rne_bool (by omega)] at HF
   clear hz
   have d0b : 0 < x.f0.f0.length := by omega
   have d0c : (0 : Int) < (x.f0.f0.length : Int) := by omega
   have d0d : decide ((x.f0.f0.length : Int) > 0) = true := decide_eq_true d0
   go_wp2_with ((with_reducible refine gate_dst (N := 2) rfl ?_); refine box_event ?hg (N := 2) ?hd (cs := #[.slice A0 (x.f0.f0).length c0, .int .i64 x.f0.f1.f0, .string x.f0.f1.f1, .int .i64 x.f0.f1.f2, .slice A4 (x.f0.f1.f3).length c4, .slice A5 (x.f0.f1.f4).length c5, .slice A6 (x.f1).length c6]) (t := 47) ?hr ?_; (case hd => rfl); (case hg => rfl); (case hr => first | (go_simp; done) | (go_simp; rfl)); intro g2 hg_ w_ hbox hb; have B2 := Aside0.mk hbox; have LB2 := Aside0.mk ((by rw [hg_]; exact below_size HB.out) : w.heap.size ≤ g2); replace HB := Aside0.mk (below_step HB.out hb); clear hb hbox hg_; have c2_0 := (blk_cell B2.out 0).trans rfl; have c2_1 := (blk_cell B2.out 1).trans rfl; have c2_2 := (blk_cell B2.out 2).trans rfl; have c2_3 := (blk_cell B2.out 3).trans rfl; have c2_4 := (blk_cell B2.out 4).trans rfl; have c2_5 := (blk_cell B2.out 5).trans rfl; have c2_6 := (blk_cell B2.out 6).trans rfl)
   go_ret
   exact ⟨by rw [HF.out]; rfl, HB.out⟩
 rw [show ((x.f0.f0.length : Int) == 0) = true from beq_iff_eq.2 (by omega)] at HF
 have d0f : ¬ (0 < x.f0.f0.length) := by omega
 have d0g : decide (0 < x.f0.f0.length) = false := decide_eq_false d0f
 go_wp2_with ((with_reducible refine gate_dst (N := 2) rfl ?_); refine box_event ?hg (N := 2) ?hd (cs := #[.slice A0 (x.f0.f0).length c0, .int .i64 x.f0.f1.f0, .string x.f0.f1.f1, .int .i64 x.f0.f1.f2, .slice A4 (x.f0.f1.f3).length c4, .slice A5 (x.f0.f1.f4).length c5, .slice A6 (x.f1).length c6]) (t := 47) ?hr ?_; (case hd => rfl); (case hg => rfl); (case hr => first | (go_simp; done) | (go_simp; rfl)); intro g2 hg_ w_ hbox hb; have B2 := Aside0.mk hbox; have LB2 := Aside0.mk ((by rw [hg_]; exact below_size HB.out) : w.heap.size ≤ g2); replace HB := Aside0.mk (below_step HB.out hb); clear hb hbox hg_; have c2_0 := (blk_cell B2.out 0).trans rfl; have c2_1 := (blk_cell B2.out 1).trans rfl; have c2_2 := (blk_cell B2.out 2).trans rfl; have c2_3 := (blk_cell B2.out 3).trans rfl; have c2_4 := (blk_cell B2.out 4).trans rfl; have c2_5 := (blk_cell B2.out 5).trans rfl; have c2_6 := (blk_cell B2.out 6).trans rfl)
 refine (hz _ HB.out).mono ?_
 rintro e_ w5 ⟨rfl, hb⟩
 replace B2 := Aside0.mk (below_blk B2.out hb)
 replace HB := Aside0.mk (below_step HB.out hb)
 clear hb hz c2_0 c2_1 c2_2 c2_3 c2_4 c2_5 c2_6
 have c2_0 := (blk_cell B2.out 0).trans rfl
 have c2_1 := (blk_cell B2.out 1).trans rfl
 have c2_2 := (blk_cell B2.out 2).trans rfl
 have c2_3 := (blk_cell B2.out 3).trans rfl
 have c2_4 := (blk_cell B2.out 4).trans rfl
 have c2_5 := (blk_cell B2.out 5).trans rfl
 have c2_6 := (blk_cell B2.out 6).trans rfl
 cases zb with
 | false =>
   go_wp2_with fail
   go_ret
   exact ⟨by rw [HF.out]; rfl, HB.out⟩
 | true =>
 by_cases d1 : (x.f1.length : Int) > 8
 · rw [decide_eq_false (show ¬ (x.f1.length : Int) ≤ 8 by omega)] at HF
   go_wp2_with fail
   go_ret
   exact ⟨by rw [HF.out]; rfl, HB.out⟩
 rw [decide_eq_true (show (x.f1.length : Int) ≤ 8 by omega)] at HF
 have HF2 := Aside0.mk (show ritemB made x = x.f1.all (rstateB made) by rw [HF.out]; rfl)
 clear HF d0 d0f d0g
 go_wp2_with fail
 clear d1 c2_0 c2_1 c2_2 c2_3 c2_4 c2_5 c2_6
 go_loopg [5] x.f1.length (fun gg s_ wr => ∃ (kka : Nat), kka ≤ x.f1.length ∧ x.f1.length - kka ≤ gg ∧ s_ = .int .i64 kka ∧ Aside0 (Below w.heap.size w wr) ∧ Aside0 (wr.heap[g2]? = some (.cells #[.slice A0 (x.f0.f0).length c0, .int .i64 x.f0.f1.f0, .string x.f0.f1.f1, .int .i64 x.f0.f1.f2, .slice A4 (x.f0.f1.f3).length c4, .slice A5 (x.f0.f1.f4).length c5, .slice A6 (x.f1).length c6] 47 (0, 0))) ∧ Aside0 (∀ j, j < kka → rstateB made (x.f1.getD j z65) = true))
 case atStart => exact ⟨0, Nat.zero_le _, by omega, rfl, HB, B2, ⟨upto_none (P := rstateB made)⟩⟩
 case round =>
   clear HB B2
   obtain ⟨kka, hkka, hgkka, rfl, HB, B2, Na⟩ := hrel
   have hmxa : x.f1.length ≤ 9223372036854775807 := (G6.out).2.1
   by_cases hlta : kka < x.f1.length
   · have hltza : (kka : Int) < (x.f1.length : Int) := by omega
     have c2_0 := (blk_cell B2.out 0).trans rfl
     have c2_1 := (blk_cell B2.out 1).trans rfl
     have c2_2 := (blk_cell B2.out 2).trans rfl
     have c2_3 := (blk_cell B2.out 3).trans rfl
     have c2_4 := (blk_cell B2.out 4).trans rfl
     have c2_5 := (blk_cell B2.out 5).trans rfl
     have c2_6 := (blk_cell B2.out 6).trans rfl
     obtain ⟨sad, scs, rfl, _, sK, scc⟩ := Kd.C_get G6.out z65 (kka : Int) (by omega) (by omega)
     have sK' := sK
     obtain ⟨sA1, sc1, sA2, sc2, rfl, sl1, sg1, sl2, sg2⟩ := k65_open sK'
     have sx0 := (HB.out.cell (World.block_lt_of_cell? w _ (scc 0 _ rfl))).trans (scc 0 _ rfl)
     have sx1 := (HB.out.cell (World.block_lt_of_cell? w _ (scc 1 _ rfl))).trans (scc 1 _ rfl)
     have sx2 := (HB.out.cell (World.block_lt_of_cell? w _ (scc 2 _ rfl))).trans (scc 2 _ rfl)
     rw [show (k65).sz = 3 from rfl, Nat.add_zero, Int.toNat_natCast] at sx0
     rw [show (k65).sz = 3 from rfl, Int.toNat_natCast, add_field _ _ 1 (by omega)] at sx1
     rw [show (k65).sz = 3 from rfl, Int.toNat_natCast, add_field _ _ 2 (by omega)] at sx2
     clear scc
     try simp only [Int.toNat_natCast] at sx0 sx1 sx2 sK sl1 sg1 sl2 sg2
     generalize Ys0 : x.f1.getD kka z65 = s at sx0 sx1 sx2 sK sl1 sg1 sl2 sg2
     have Ys := Aside0.mk Ys0; clear Ys0
     have sL1 := Aside0.mk sl1; have sG1 := Aside0.mk sg1; clear sl1 sg1
     have sL2 := Aside0.mk sl2; have sG2 := Aside0.mk sg2; clear sl2 sg2
     have HSB := Aside0.mk (show rstateB made s = (conB made s.f0 && (decide ((s.f1.length : Int) ≤ 24) && (decide ((s.f2.length : Int) ≤ 4) && (s.f1.all (reqB made) && s.f2.all (rwayB made))))) from rfl)
     have hc := fun W => rcon_calls made s.f0 W
     generalize conB made s.f0 = cb at hc HSB
     go_wp2_with ((with_reducible refine gate_store (t := 65) (p := 6) rfl ?_); refine store_whole rfl rfl 65 _ _ rfl wr.heap.size _ 65 rfl (blk_new _ _) _ rfl rfl rfl (by simp [Value.oneCell']) ?_; intro w2 hb2 hg2; replace B2 := Aside0.mk (blk_as B2.out hg2); replace HB := Aside0.mk (below_as HB.out hg2); obtain ⟨g6, hq_⟩ : ∃ g_, g_ = wr.heap.size := ⟨_, rfl⟩; rw [← hq_] at hb2; rw [← hq_]; have B6 := Aside0.mk hb2; clear hb2 hg2 hq_; have c6_0 := (blk_cell B6.out 0).trans rfl; have c6_1 := (blk_cell B6.out 1).trans rfl; have c6_2 := (blk_cell B6.out 2).trans rfl)
     refine (hc _).mono ?_
     rintro e_ w7 ⟨rfl, hb⟩
     replace B2 := Aside0.mk (below_blk B2.out hb)
     replace B6 := Aside0.mk (below_blk B6.out hb)
     replace HB := Aside0.mk (below_step HB.out hb)
     clear hb hc sK c2_0 c2_1 c2_2 c2_3 c2_4 c2_5 c2_6 c6_0 c6_1 c6_2
     have c6_0 := (blk_cell B6.out 0).trans rfl
     have c6_1 := (blk_cell B6.out 1).trans rfl
     have c6_2 := (blk_cell B6.out 2).trans rfl
     cases cb with
     | false =>
       have HS := Aside0.mk (show rstateB made s = false by rw [HSB.out]; rfl)
       go_wp2_with fail
       go_ret
       exact ⟨by rw [HF2.out, all_getD_no x.f1 (rstateB made) z65 kka hlta (by rw [Ys.out]; exact HS.out)]; rfl, HB.out⟩
     | true =>
     by_cases d2 : (s.f1.length : Int) > 24
     · have HS := Aside0.mk (show rstateB made s = false by rw [HSB.out, decide_eq_false (show ¬ (s.f1.length : Int) ≤ 24 by omega)]; rfl)
       go_wp2_with fail
       go_ret
       exact ⟨by rw [HF2.out, all_getD_no x.f1 (rstateB made) z65 kka hlta (by rw [Ys.out]; exact HS.out)]; rfl, HB.out⟩
     by_cases d3 : (s.f2.length : Int) > 4
     · have HS := Aside0.mk (show rstateB made s = false by rw [HSB.out, decide_eq_false (show ¬ (s.f2.length : Int) ≤ 4 by omega)]; cases decide ((s.f1.length : Int) ≤ 24) <;> rfl)
       go_wp2_with fail
       go_ret
       exact ⟨by rw [HF2.out, all_getD_no x.f1 (rstateB made) z65 kka hlta (by rw [Ys.out]; exact HS.out)]; rfl, HB.out⟩
     have HSB2 := Aside0.mk (show rstateB made s = (s.f1.all (reqB made) && s.f2.all (rwayB made)) by rw [HSB.out, decide_eq_true (show (s.f1.length : Int) ≤ 24 by omega), decide_eq_true (show (s.f2.length : Int) ≤ 4 by omega)]; rfl)
     clear HSB
     go_wp2_with fail
     clear d2 d3 c6_0 c6_1 c6_2
     go_loopg [7] s.f1.length (fun gg s_ wr => ∃ (kkb : Nat), kkb ≤ s.f1.length ∧ s.f1.length - kkb ≤ gg ∧ s_ = .int .i64 kkb ∧ Aside0 (Below w.heap.size w wr) ∧ Aside0 (wr.heap[g2]? = some (.cells #[.slice A0 (x.f0.f0).length c0, .int .i64 x.f0.f1.f0, .string x.f0.f1.f1, .int .i64 x.f0.f1.f2, .slice A4 (x.f0.f1.f3).length c4, .slice A5 (x.f0.f1.f4).length c5, .slice (some sad) (x.f1).length c6] 47 (0, 0))) ∧ Aside0 (wr.heap[g6]? = some (.cells #[.string s.f0, .slice sA1 (s.f1).length sc1, .slice sA2 (s.f2).length sc2] 65 (0, 0))) ∧ Aside0 (∀ j, j < kkb → reqB made (s.f1.getD j z44) = true))
     case atStart => exact ⟨0, Nat.zero_le _, by omega, rfl, HB, B2, B6, ⟨upto_none (P := reqB made)⟩⟩
     case round =>
       clear HB B2 B6
       obtain ⟨kkb, hkkb, hgkkb, rfl, HB, B2, B6, Nb⟩ := hrel
       have hmxb : s.f1.length ≤ 9223372036854775807 := (sG1.out).2.1
       by_cases hltb : kkb < s.f1.length
       · have hltzb : (kkb : Int) < (s.f1.length : Int) := by omega
         have c6_0 := (blk_cell B6.out 0).trans rfl
         have c6_1 := (blk_cell B6.out 1).trans rfl
         have c6_2 := (blk_cell B6.out 2).trans rfl
         obtain ⟨qad, qcs, rfl, _, qK, qcc⟩ := Kd.C_get sG1.out z44 (kkb : Int) (by omega) (by omega)
         have qK' := qK
         obtain ⟨qA0, qc0, qA4, qc4, qA5, qc5, rfl, ql0, qg0, ql4, qg4, ql5, qg5⟩ := k44_open qK'
         have qx0 := (HB.out.cell (World.block_lt_of_cell? w _ (qcc 0 _ rfl))).trans (qcc 0 _ rfl)
         have qx1 := (HB.out.cell (World.block_lt_of_cell? w _ (qcc 1 _ rfl))).trans (qcc 1 _ rfl)
         have qx2 := (HB.out.cell (World.block_lt_of_cell? w _ (qcc 2 _ rfl))).trans (qcc 2 _ rfl)
         have qx3 := (HB.out.cell (World.block_lt_of_cell? w _ (qcc 3 _ rfl))).trans (qcc 3 _ rfl)
         have qx4 := (HB.out.cell (World.block_lt_of_cell? w _ (qcc 4 _ rfl))).trans (qcc 4 _ rfl)
         have qx5 := (HB.out.cell (World.block_lt_of_cell? w _ (qcc 5 _ rfl))).trans (qcc 5 _ rfl)
         rw [show (k44).sz = 6 from rfl, Nat.add_zero, Int.toNat_natCast] at qx0
         rw [show (k44).sz = 6 from rfl, Int.toNat_natCast, add_field _ _ 1 (by omega)] at qx1
         rw [show (k44).sz = 6 from rfl, Int.toNat_natCast, add_field _ _ 2 (by omega)] at qx2
         rw [show (k44).sz = 6 from rfl, Int.toNat_natCast, add_field _ _ 3 (by omega)] at qx3
         rw [show (k44).sz = 6 from rfl, Int.toNat_natCast, add_field _ _ 4 (by omega)] at qx4
         rw [show (k44).sz = 6 from rfl, Int.toNat_natCast, add_field _ _ 5 (by omega)] at qx5
         clear qcc
         try simp only [Int.toNat_natCast] at qx0 qx1 qx2 qx3 qx4 qx5 qK ql0 qg0 ql4 qg4 ql5 qg5
         generalize Yq0 : s.f1.getD kkb z44 = q at qx0 qx1 qx2 qx3 qx4 qx5 qK ql0 qg0 ql4 qg4 ql5 qg5
         have Yq := Aside0.mk Yq0; clear Yq0
         have qL0 := Aside0.mk ql0; have qG0 := Aside0.mk qg0; clear ql0 qg0
         have qL4 := Aside0.mk ql4; have qG4 := Aside0.mk qg4; clear ql4 qg4
         have qL5 := Aside0.mk ql5; have qG5 := Aside0.mk qg5; clear ql5 qg5
         have hq := fun (W : World) (hB : Below w.heap.size w W) => req_calls made q W _ (Kd.K_below _ hB qK)
         clear qK
         generalize hqb : reqB made q = qb at hq
         have HQB := Aside0.mk hqb; clear hqb
         go_wp2_with fail
         refine (hq _ HB.out).mono ?_
         rintro e_ w8 ⟨rfl, hb⟩
         replace B2 := Aside0.mk (below_blk B2.out hb)
         replace B6 := Aside0.mk (below_blk B6.out hb)
         replace HB := Aside0.mk (below_step HB.out hb)
         clear hb hq c6_0 c6_1 c6_2 qx0 qx1 qx2 qx3 qx4 qx5
         cases qb with
         | false =>
           have HS := Aside0.mk (show rstateB made s = false by rw [HSB2.out, all_getD_no s.f1 (reqB made) z44 kkb hltb (by rw [Yq.out]; exact HQB.out)]; rfl)
           go_wp2_with fail
           go_ret
           exact ⟨by rw [HF2.out, all_getD_no x.f1 (rstateB made) z65 kka hlta (by rw [Ys.out]; exact HS.out)]; rfl, HB.out⟩
         | true =>
           go_wp2_with fail
           go_roundg (s.f1.length - (kkb + 1))
           case measure => omega
           case rel => exact ⟨kkb + 1, by omega, by omega, by go_num, HB, B2, B6, ⟨upto_step (P := reqB made) Nb.out Yq.out HQB.out⟩⟩
       · have hltzb : ¬ (kkb : Int) < (s.f1.length : Int) := by omega
         obtain rfl : kkb = s.f1.length := by omega
         have HSB3 := Aside0.mk (show rstateB made s = s.f2.all (rwayB made) by rw [HSB2.out, all_getD s.f1 (reqB made) z44 Nb.out, Bool.true_and])
         clear HSB2 Nb
         have c6_0 := (blk_cell B6.out 0).trans rfl
         have c6_1 := (blk_cell B6.out 1).trans rfl
         have c6_2 := (blk_cell B6.out 2).trans rfl
         go_wp2_with fail
         clear c6_0 c6_1 c6_2
         go_loopg [8] s.f2.length (fun gg s_ wr => ∃ (kkc : Nat), kkc ≤ s.f2.length ∧ s.f2.length - kkc ≤ gg ∧ s_ = .int .i64 kkc ∧ Aside0 (Below w.heap.size w wr) ∧ Aside0 (wr.heap[g2]? = some (.cells #[.slice A0 (x.f0.f0).length c0, .int .i64 x.f0.f1.f0, .string x.f0.f1.f1, .int .i64 x.f0.f1.f2, .slice A4 (x.f0.f1.f3).length c4, .slice A5 (x.f0.f1.f4).length c5, .slice (some sad) (x.f1).length c6] 47 (0, 0))) ∧ Aside0 (wr.heap[g6]? = some (.cells #[.string s.f0, .slice sA1 (s.f1).length sc1, .slice sA2 (s.f2).length sc2] 65 (0, 0))) ∧ Aside0 (∀ j, j < kkc → rwayB made (s.f2.getD j z93) = true))
         case atStart => exact ⟨0, Nat.zero_le _, by omega, rfl, HB, B2, B6, ⟨upto_none (P := rwayB made)⟩⟩
         case round =>
           clear HB B2 B6
           obtain ⟨kkc, hkkc, hgkkc, rfl, HB, B2, B6, Nc⟩ := hrel
           have hmxc : s.f2.length ≤ 9223372036854775807 := (sG2.out).2.1
           by_cases hltc : kkc < s.f2.length
           · have hltzc : (kkc : Int) < (s.f2.length : Int) := by omega
             have c6_0 := (blk_cell B6.out 0).trans rfl
             have c6_1 := (blk_cell B6.out 1).trans rfl
             have c6_2 := (blk_cell B6.out 2).trans rfl
             obtain ⟨yad, ycs, rfl, _, yK, ycc⟩ := Kd.C_get sG2.out z93 (kkc : Int) (by omega) (by omega)
             have yK' := yK
             obtain ⟨yA3, yc3, yA4, yc4, rfl, yl3, yg3, yl4, yg4⟩ := k93_open yK'
             have yx0 := (HB.out.cell (World.block_lt_of_cell? w _ (ycc 0 _ rfl))).trans (ycc 0 _ rfl)
             have yx1 := (HB.out.cell (World.block_lt_of_cell? w _ (ycc 1 _ rfl))).trans (ycc 1 _ rfl)
             have yx2 := (HB.out.cell (World.block_lt_of_cell? w _ (ycc 2 _ rfl))).trans (ycc 2 _ rfl)
             have yx3 := (HB.out.cell (World.block_lt_of_cell? w _ (ycc 3 _ rfl))).trans (ycc 3 _ rfl)
             have yx4 := (HB.out.cell (World.block_lt_of_cell? w _ (ycc 4 _ rfl))).trans (ycc 4 _ rfl)
             have yx5 := (HB.out.cell (World.block_lt_of_cell? w _ (ycc 5 _ rfl))).trans (ycc 5 _ rfl)
             rw [show (k93).sz = 6 from rfl, Nat.add_zero, Int.toNat_natCast] at yx0
             rw [show (k93).sz = 6 from rfl, Int.toNat_natCast, add_field _ _ 1 (by omega)] at yx1
             rw [show (k93).sz = 6 from rfl, Int.toNat_natCast, add_field _ _ 2 (by omega)] at yx2
             rw [show (k93).sz = 6 from rfl, Int.toNat_natCast, add_field _ _ 3 (by omega)] at yx3
             rw [show (k93).sz = 6 from rfl, Int.toNat_natCast, add_field _ _ 4 (by omega)] at yx4
             rw [show (k93).sz = 6 from rfl, Int.toNat_natCast, add_field _ _ 5 (by omega)] at yx5
             clear ycc
             try simp only [Int.toNat_natCast] at yx0 yx1 yx2 yx3 yx4 yx5 yK yl3 yg3 yl4 yg4
             generalize Yy0 : s.f2.getD kkc z93 = y at yx0 yx1 yx2 yx3 yx4 yx5 yK yl3 yg3 yl4 yg4
             have Yy := Aside0.mk Yy0; clear Yy0
             have yL3 := Aside0.mk yl3; have yG3 := Aside0.mk yg3; clear yl3 yg3
             have yL4 := Aside0.mk yl4; have yG4 := Aside0.mk yg4; clear yl4 yg4
             have hc := fun W => rcon_calls made y.f1 W
             have he := fun (W : World) (hB : Below w.heap.size w W) => rexpr_calls made y.f0 W _ (k42_mk W y.f0 yL3.out (Kd.C_below yG3.out hB) yL4.out (Kd.C_below yG4.out hB))
             clear yK
             have HYB := Aside0.mk (show rwayB made y = (conB made y.f1 && rexprB made y.f0) from rfl)
             generalize conB made y.f1 = cb at hc HYB
             generalize rexprB made y.f0 = eb at he HYB
             go_wp2_with fail
             refine (hc _).mono ?_
             rintro e_ w8 ⟨rfl, hb⟩
             replace B2 := Aside0.mk (below_blk B2.out hb)
             replace B6 := Aside0.mk (below_blk B6.out hb)
             replace HB := Aside0.mk (below_step HB.out hb)
             replace yx0 := pw_cell_below hb yx0
             replace yx1 := pw_cell_below hb yx1
             replace yx2 := pw_cell_below hb yx2
             replace yx3 := pw_cell_below hb yx3
             replace yx4 := pw_cell_below hb yx4
             replace yx5 := pw_cell_below hb yx5
             clear hb hc c6_0 c6_1 c6_2
             have c6_0 := (blk_cell B6.out 0).trans rfl
             have c6_1 := (blk_cell B6.out 1).trans rfl
             have c6_2 := (blk_cell B6.out 2).trans rfl
             cases cb with
             | false =>
               have HS := Aside0.mk (show rstateB made s = false by rw [HSB3.out, all_getD_no s.f2 (rwayB made) z93 kkc hltc (by rw [Yy.out, HYB.out]; rfl)])
               clear he
               go_wp2_with fail
               go_ret
               exact ⟨by rw [HF2.out, all_getD_no x.f1 (rstateB made) z65 kka hlta (by rw [Ys.out]; exact HS.out)]; rfl, HB.out⟩
             | true =>
             go_wp2_with fail
             refine (he _ HB.out).mono ?_
             rintro e_ w9 ⟨rfl, hb⟩
             replace B2 := Aside0.mk (below_blk B2.out hb)
             replace B6 := Aside0.mk (below_blk B6.out hb)
             replace HB := Aside0.mk (below_step HB.out hb)
             clear hb he c6_0 c6_1 c6_2 yx0 yx1 yx2 yx3 yx4 yx5
             cases eb with
             | false =>
               have HS := Aside0.mk (show rstateB made s = false by rw [HSB3.out, all_getD_no s.f2 (rwayB made) z93 kkc hltc (by rw [Yy.out, HYB.out]; rfl)])
               go_wp2_with fail
               go_ret
               exact ⟨by rw [HF2.out, all_getD_no x.f1 (rstateB made) z65 kka hlta (by rw [Ys.out]; exact HS.out)]; rfl, HB.out⟩
             | true =>
               go_wp2_with fail
               go_roundg (s.f2.length - (kkc + 1))
               case measure => omega
               case rel => exact ⟨kkc + 1, by omega, by omega, by go_num, HB, B2, B6, ⟨upto_step (P := rwayB made) Nc.out Yy.out HYB.out⟩⟩
           · have hltzc : ¬ (kkc : Int) < (s.f2.length : Int) := by omega
             obtain rfl : kkc = s.f2.length := by omega
             have HS := Aside0.mk (show rstateB made s = true by rw [HSB3.out, all_getD s.f2 (rwayB made) z93 Nc.out])
             clear HSB3 Nc
             have c6_0 := (blk_cell B6.out 0).trans rfl
             have c6_1 := (blk_cell B6.out 1).trans rfl
             have c6_2 := (blk_cell B6.out 2).trans rfl
             go_wp2_with fail
             clear B6 c6_0 c6_1 c6_2
             go_roundg (x.f1.length - (kka + 1))
             case measure => omega
             case rel => exact ⟨kka + 1, by omega, by omega, by go_num, HB, B2, ⟨upto_step (P := rstateB made) Na.out Ys.out HS.out⟩⟩
   · have hltza : ¬ (kka : Int) < (x.f1.length : Int) := by omega
     obtain rfl : kka = x.f1.length := by omega
     have c2_0 := (blk_cell B2.out 0).trans rfl
     have c2_1 := (blk_cell B2.out 1).trans rfl
     have c2_2 := (blk_cell B2.out 2).trans rfl
     have c2_3 := (blk_cell B2.out 3).trans rfl
     have c2_4 := (blk_cell B2.out 4).trans rfl
     have c2_5 := (blk_cell B2.out 5).trans rfl
     have c2_6 := (blk_cell B2.out 6).trans rfl
     go_wp2_with fail
     go_ret
     exact ⟨by rw [HF2.out, all_getD x.f1 (rstateB made) z65 Na.out]; rfl, HB.out⟩
def renumB (made : Bool) (t : S38) : Bool := nameB made t.f0 && allB t.f1 1 8 (conB made)
def rnodeB (made : Bool) (n : S35) : Bool := nameB made n.f0 && (allB n.f1 0 6 (nameB made) && (allB n.f2 1 6 (nameB made) && (allB n.f3 1 6 (nameB made) && ((made || decide ((n.f4.length : Int) ≤ 24)) && n.f4.all (ritemB made)))))
def rheadB (made : Bool) (a b : Int) : Bool := decide (a ≤ 32) && ((made || decide (a ≤ 8)) && (decide (1 ≤ b) && decide (b ≤ 16)))
def rfieldB (made : Bool) (es : List S38) (ns : List S35) : Bool := rheadB made es.length ns.length && (es.all (renumB made) && ns.all (rnodeB made))
set_option maxHeartbeats 16000000 in
theorem rfield_calls (made : Bool) (es : List S38) (ns : List S35) (Ae An : Option Addr) (ce cn : Nat) (w : World) (he : k38.C w Ae es.length es) (hn : k35.C w An ns.length ns) :
   Calls Tryz.prog 18 #[.agg #[.slice Ae es.length ce, .slice An ns.length cn], .bool made] w fun e w' => e = .returned (.bool (rfieldB made es ns)) ∧ Below w.heap.size w w' := by
 have HE := Aside0.mk he; have HN := Aside0.mk hn; have HB := Aside0.mk (Below.refl w.heap.size w)
 clear he hn
 have hu1 := Tryz.underlying25
 have hu2 := Tryz.underlying38
 have hu3 := Tryz.underlying35
 have hu4 := Tryz.underlying47
 have HF := Aside0.mk (show rfieldB made es ns = (rheadB made es.length ns.length && (es.all (renumB made) && ns.all (rnodeB made))) from rfl)
 have HH := Aside0.mk (show rheadB made es.length ns.length = (decide ((es.length : Int) ≤ 32) && ((made || decide ((es.length : Int) ≤ 8)) && (decide (1 ≤ (ns.length : Int)) && decide ((ns.length : Int) ≤ 16)))) from rfl)
 generalize rheadB made es.length ns.length = hd at HF HH
 go_enter Tryz.func18, Tryz.ntmps18
 go_upto_region 1 with ((with_reducible refine gate_dst (N := 2) rfl ?_); refine box_event ?hg (N := 2) ?hd (cs := #[.slice Ae es.length ce, .slice An ns.length cn]) (t := 25) ?hr ?_; (case hd => rfl); (case hg => rfl); (case hr => first | (go_simp; done) | (go_simp; rfl)); intro g2 hg_ w_ hbox hb; have B2 := Aside0.mk hbox; have LB2 := Aside0.mk ((by rw [hg_]; exact below_size HB.out) : w.heap.size ≤ g2); replace HB := Aside0.mk (below_step HB.out hb); clear hb hbox hg_; have c2_0 := (blk_cell B2.out 0).trans rfl; have c2_1 := (blk_cell B2.out 1).trans rfl)
 go_cut [34] from 9 to 34 (fun s_ wx => ∃ q : Bool, s_ = .bool q ∧ Aside0 (hd = !q) ∧ Aside0 (Below w.heap.size w wx) ∧ Aside0 (wx.heap[g2]? = some (.cells #[.slice Ae es.length ce, .slice An ns.length cn] 25 (0, 0))))
 case first =>
   by_cases d0 : (es.length : Int) > 32
   · skip
     have HQ := Aside0.mk (show hd = !true by rw [HH.out]; rw [decide_eq_false (show ¬ (es.length : Int) ≤ 32 by omega)]; rfl)
     go_wp2_with fail
     go_meet
     case rel => exact ⟨_, rfl, HQ, HB, B2⟩
   cases made with
   | true =>
     by_cases d2 : (ns.length : Int) < 1
     · skip
       have HQ := Aside0.mk (show hd = !true by rw [HH.out]; rw [decide_eq_true (show (es.length : Int) ≤ 32 by omega), Bool.true_or, decide_eq_false (show ¬ 1 ≤ (ns.length : Int) by omega)]; rfl)
       go_wp2_with fail
       go_meet
       case rel => exact ⟨_, rfl, HQ, HB, B2⟩
     by_cases d3 : (ns.length : Int) > 16
     · skip
       have HQ := Aside0.mk (show hd = !true by rw [HH.out]; rw [decide_eq_true (show (es.length : Int) ≤ 32 by omega), Bool.true_or, decide_eq_true (show 1 ≤ (ns.length : Int) by omega), decide_eq_false (show ¬ (ns.length : Int) ≤ 16 by omega)]; rfl)
       go_wp2_with fail
       go_meet
       case rel => exact ⟨_, rfl, HQ, HB, B2⟩
     have HQ := Aside0.mk (show hd = !false by rw [HH.out]; rw [decide_eq_true (show (es.length : Int) ≤ 32 by omega), Bool.true_or, decide_eq_true (show 1 ≤ (ns.length : Int) by omega), decide_eq_true (show (ns.length : Int) ≤ 16 by omega)]; rfl)
     go_wp2_with fail
     go_meet
     case rel => exact ⟨_, rfl, HQ, HB, B2⟩
   | false =>
     by_cases d1 : (es.length : Int) > 8
     · skip
       have HQ := Aside0.mk (show hd = !true by rw [HH.out]; rw [decide_eq_true (show (es.length : Int) ≤ 32 by omega), Bool.false_or, decide_eq_false (show ¬ (es.length : Int) ≤ 8 by omega)]; rfl)
       go_wp2_with fail
       go_meet
       case rel => exact ⟨_, rfl, HQ, HB, B2⟩
     by_cases d2 : (ns.length : Int) < 1
     · skip
       have HQ := Aside0.mk (show hd = !true by rw [HH.out]; rw [decide_eq_true (show (es.length : Int) ≤ 32 by omega), Bool.false_or, decide_eq_true (show (es.length : Int) ≤ 8 by omega), decide_eq_false (show ¬ 1 ≤ (ns.length : Int) by omega)]; rfl)
       go_wp2_with fail
       go_meet
       case rel => exact ⟨_, rfl, HQ, HB, B2⟩
     by_cases d3 : (ns.length : Int) > 16
     · skip
       have HQ := Aside0.mk (show hd = !true by rw [HH.out]; rw [decide_eq_true (show (es.length : Int) ≤ 32 by omega), Bool.false_or, decide_eq_true (show (es.length : Int) ≤ 8 by omega), decide_eq_true (show 1 ≤ (ns.length : Int) by omega), decide_eq_false (show ¬ (ns.length : Int) ≤ 16 by omega)]; rfl)
       go_wp2_with fail
       go_meet
       case rel => exact ⟨_, rfl, HQ, HB, B2⟩
     have HQ := Aside0.mk (show hd = !false by rw [HH.out]; rw [decide_eq_true (show (es.length : Int) ≤ 32 by omega), Bool.false_or, decide_eq_true (show (es.length : Int) ≤ 8 by omega), decide_eq_true (show 1 ≤ (ns.length : Int) by omega), decide_eq_true (show (ns.length : Int) ≤ 16 by omega)]; rfl)
     go_wp2_with fail
     go_meet
     case rel => exact ⟨_, rfl, HQ, HB, B2⟩
 case rest =>
   clear HB B2 HH c2_0 c2_1
   obtain ⟨q, rfl, HQ, HB, B2⟩ := hcut
   cases q with
   | true =>
     go_wp2_with fail
     go_ret
     exact ⟨by rw [HF.out, HQ.out]; rfl, HB.out⟩
   | false =>
   have HF2 := Aside0.mk (show rfieldB made es ns = (es.all (renumB made) && ns.all (rnodeB made)) by rw [HF.out, HQ.out]; rfl)
   clear HF HQ
   go_wp2_with fail
   go_loopg [5] es.length (fun gg s_ wr => ∃ (kka : Nat), kka ≤ es.length ∧ es.length - kka ≤ gg ∧ s_ = .int .i64 kka ∧ Aside0 (Below w.heap.size w wr) ∧ Aside0 (wr.heap[g2]? = some (.cells #[.slice Ae es.length ce, .slice An ns.length cn] 25 (0, 0))) ∧ Aside0 (∀ j, j < kka → renumB made (es.getD j z38) = true))
   case atStart => exact ⟨0, Nat.zero_le _, by omega, rfl, HB, B2, ⟨upto_none (P := renumB made)⟩⟩
   case round =>
     clear HB B2
     obtain ⟨kka, hkka, hgkka, rfl, HB, B2, Na⟩ := hrel
     have hmxa : es.length ≤ 9223372036854775807 := (HE.out).2.1
     by_cases hlta : kka < es.length
     · have hltza : (kka : Int) < (es.length : Int) := by omega
       have c2_0 := (blk_cell B2.out 0).trans rfl
       have c2_1 := (blk_cell B2.out 1).trans rfl
       obtain ⟨yad, ycs, rfl, _, yK, ycc⟩ := Kd.C_get HE.out z38 (kka : Int) (by omega) (by omega)
       have yK' := yK
       obtain ⟨yA1, yc1, rfl, yl1, yg1⟩ := k38_open yK'
       have yx0 := (HB.out.cell (World.block_lt_of_cell? w _ (ycc 0 _ rfl))).trans (ycc 0 _ rfl)
       have yx1 := (HB.out.cell (World.block_lt_of_cell? w _ (ycc 1 _ rfl))).trans (ycc 1 _ rfl)
       rw [show (k38).sz = 2 from rfl, Nat.add_zero, Int.toNat_natCast] at yx0
       rw [show (k38).sz = 2 from rfl, Int.toNat_natCast, add_field _ _ 1 (by omega)] at yx1
       clear ycc
       try simp only [Int.toNat_natCast] at yx0 yx1 yK yl1 yg1
       generalize Yy0 : es.getD kka z38 = y at yx0 yx1 yK yl1 yg1
       have Yy := Aside0.mk Yy0; clear Yy0
       have yL1 := Aside0.mk yl1; have yG1 := Aside0.mk yg1; clear yl1 yg1
       have h1 := fun W => rname_calls made y.f0 W
       have h2 := fun (W : World) (hB : Below w.heap.size w W) => rcons_calls made _ yc1 y.f1 1 8 W (Kd.C_below yG1.out hB) yL1.out
       clear yK
       have HYB := Aside0.mk (show renumB made y = (nameB made y.f0 && allB y.f1 1 8 (conB made)) from rfl)
       generalize nameB made y.f0 = a at h1 HYB
       generalize allB y.f1 1 8 (conB made) = b at h2 HYB
       go_wp2_with fail
       refine (h1 _).mono ?_
       rintro e_ w5 ⟨rfl, hb⟩
       replace yx0 := pw_cell_below hb yx0
       replace yx1 := pw_cell_below hb yx1
       replace B2 := Aside0.mk (below_blk B2.out hb)
       replace HB := Aside0.mk (below_step HB.out hb)
       clear hb h1 c2_0 c2_1
       have c2_0 := (blk_cell B2.out 0).trans rfl
       have c2_1 := (blk_cell B2.out 1).trans rfl
       cases a with
       | false =>
         clear h2
         go_wp2_with fail
         go_ret
         exact ⟨by rw [HF2.out, all_getD_no es (renumB made) z38 kka hlta (by rw [Yy.out, HYB.out]; rfl)]; rfl, HB.out⟩
       | true =>
       go_wp2_with fail
       refine (h2 _ HB.out).mono ?_
       rintro e_ w6 ⟨rfl, hb⟩
       replace B2 := Aside0.mk (below_blk B2.out hb)
       replace HB := Aside0.mk (below_step HB.out hb)
       clear hb h2 yx0 yx1 c2_0 c2_1
       cases b with
       | false =>
         go_wp2_with fail
         go_ret
         exact ⟨by rw [HF2.out, all_getD_no es (renumB made) z38 kka hlta (by rw [Yy.out, HYB.out]; rfl)]; rfl, HB.out⟩
       | true =>
         go_wp2_with fail
         go_roundg (es.length - (kka + 1))
         case measure => omega
         case rel => exact ⟨kka + 1, by omega, by omega, by go_num, HB, B2, ⟨upto_step (P := renumB made) Na.out Yy.out HYB.out⟩⟩
     · have hltza : ¬ (kka : Int) < (es.length : Int) := by omega
       obtain rfl : kka = es.length := by omega
       have HF3 := Aside0.mk (show rfieldB made es ns = ns.all (rnodeB made) by rw [HF2.out, all_getD es (renumB made) z38 Na.out, Bool.true_and])
       clear HF2 Na
       have c2_0 := (blk_cell B2.out 0).trans rfl
       have c2_1 := (blk_cell B2.out 1).trans rfl
       go_wp2_with fail
       clear c2_0 c2_1
       go_loopg [6] ns.length (fun gg s_ wr => ∃ (kkb : Nat), kkb ≤ ns.length ∧ ns.length - kkb ≤ gg ∧ s_ = .int .i64 kkb ∧ Aside0 (Below w.heap.size w wr) ∧ Aside0 (wr.heap[g2]? = some (.cells #[.slice Ae es.length ce, .slice An ns.length cn] 25 (0, 0))) ∧ Aside0 (∀ j, j < kkb → rnodeB made (ns.getD j z35) = true))
       case atStart => exact ⟨0, Nat.zero_le _, by omega, rfl, HB, B2, ⟨upto_none (P := rnodeB made)⟩⟩
       case round =>
         clear HB B2
         obtain ⟨kkb, hkkb, hgkkb, rfl, HB, B2, Nb⟩ := hrel
         have hmxb : ns.length ≤ 9223372036854775807 := (HN.out).2.1
         by_cases hltb : kkb < ns.length
         · have hltzb : (kkb : Int) < (ns.length : Int) := by omega
           have c2_0 := (blk_cell B2.out 0).trans rfl
           have c2_1 := (blk_cell B2.out 1).trans rfl
           obtain ⟨nad, ncs, rfl, _, nK, ncc⟩ := Kd.C_get HN.out z35 (kkb : Int) (by omega) (by omega)
           have nK' := nK
           obtain ⟨nA1, nc1, nA2, nc2, nA3, nc3, nA4, nc4, rfl, nl1, ng1, nl2, ng2, nl3, ng3, nl4, ng4⟩ := k35_open nK'
           have nx0 := (HB.out.cell (World.block_lt_of_cell? w _ (ncc 0 _ rfl))).trans (ncc 0 _ rfl)
           have nx1 := (HB.out.cell (World.block_lt_of_cell? w _ (ncc 1 _ rfl))).trans (ncc 1 _ rfl)
           have nx2 := (HB.out.cell (World.block_lt_of_cell? w _ (ncc 2 _ rfl))).trans (ncc 2 _ rfl)
           have nx3 := (HB.out.cell (World.block_lt_of_cell? w _ (ncc 3 _ rfl))).trans (ncc 3 _ rfl)
           have nx4 := (HB.out.cell (World.block_lt_of_cell? w _ (ncc 4 _ rfl))).trans (ncc 4 _ rfl)
           rw [show (k35).sz = 5 from rfl, Nat.add_zero, Int.toNat_natCast] at nx0
           rw [show (k35).sz = 5 from rfl, Int.toNat_natCast, add_field _ _ 1 (by omega)] at nx1
           rw [show (k35).sz = 5 from rfl, Int.toNat_natCast, add_field _ _ 2 (by omega)] at nx2
           rw [show (k35).sz = 5 from rfl, Int.toNat_natCast, add_field _ _ 3 (by omega)] at nx3
           rw [show (k35).sz = 5 from rfl, Int.toNat_natCast, add_field _ _ 4 (by omega)] at nx4
           clear ncc
           try simp only [Int.toNat_natCast] at nx0 nx1 nx2 nx3 nx4 nK nl1 ng1 nl2 ng2 nl3 ng3 nl4 ng4
           generalize Yn0 : ns.getD kkb z35 = n at nx0 nx1 nx2 nx3 nx4 nK nl1 ng1 nl2 ng2 nl3 ng3 nl4 ng4
           have Yn := Aside0.mk Yn0; clear Yn0
           have nL1 := Aside0.mk nl1; have nG1 := Aside0.mk ng1; clear nl1 ng1
           have nL2 := Aside0.mk nl2; have nG2 := Aside0.mk ng2; clear nl2 ng2
           have nL3 := Aside0.mk nl3; have nG3 := Aside0.mk ng3; clear nl3 ng3
           have nL4 := Aside0.mk nl4; have nG4 := Aside0.mk ng4; clear nl4 ng4
           skip
           have h1 := fun W => rname_calls made n.f0 W
           have h2 := fun (W : World) (hB : Below w.heap.size w W) => rnames_calls made _ nc1 n.f1 0 6 W (Kd.C_below nG1.out hB) nL1.out
           have h3 := fun (W : World) (hB : Below w.heap.size w W) => rnames_calls made _ nc2 n.f2 1 6 W (Kd.C_below nG2.out hB) nL2.out
           have h4 := fun (W : World) (hB : Below w.heap.size w W) => rnames_calls made _ nc3 n.f3 1 6 W (Kd.C_below nG3.out hB) nL3.out
           clear nK
           have HNB := Aside0.mk (show rnodeB made n = (nameB made n.f0 && (allB n.f1 0 6 (nameB made) && (allB n.f2 1 6 (nameB made) && (allB n.f3 1 6 (nameB made) && ((made || decide ((n.f4.length : Int) ≤ 24)) && n.f4.all (ritemB made)))))) from rfl)
           generalize nameB made n.f0 = b1 at h1 HNB
           generalize allB n.f1 0 6 (nameB made) = b2 at h2 HNB
           generalize allB n.f2 1 6 (nameB made) = b3 at h3 HNB
           generalize allB n.f3 1 6 (nameB made) = b4 at h4 HNB
           go_upto_region 12 with ((with_reducible refine gate_store (t := 35) (p := 7) rfl ?_); refine store_whole rfl rfl 35 _ _ rfl wr.heap.size _ 35 rfl (blk_new _ _) _ rfl rfl rfl (by simp [Value.oneCell']) ?_; intro w2 hb2 hg2; replace B2 := Aside0.mk (blk_as B2.out hg2); replace HB := Aside0.mk (below_as HB.out hg2); obtain ⟨g7, hq_⟩ : ∃ g_, g_ = wr.heap.size := ⟨_, rfl⟩; rw [← hq_] at hb2; rw [← hq_]; have B7 := Aside0.mk hb2; clear hb2 hg2 hq_; have c7_0 := (blk_cell B7.out 0).trans rfl; have c7_1 := (blk_cell B7.out 1).trans rfl; have c7_2 := (blk_cell B7.out 2).trans rfl; have c7_3 := (blk_cell B7.out 3).trans rfl; have c7_4 := (blk_cell B7.out 4).trans rfl)
           clear nx0 nx1 nx2 nx3 nx4 c2_0 c2_1
           go_cut [109] from 62 to 124 (fun s_ wx => ∃ q : Bool, s_ = .bool (!q) ∧ Aside0 (rnodeB made n = (q && n.f4.all (ritemB made))) ∧ Aside0 (Below w.heap.size w wx) ∧ Aside0 (wx.heap[g2]? = some (.cells #[.slice Ae es.length ce, .slice (some nad) ns.length cn] 25 (0, 0))) ∧ Aside0 (wx.heap[g7]? = some (.cells #[.string n.f0, .slice nA1 (n.f1).length nc1, .slice nA2 (n.f2).length nc2, .slice nA3 (n.f3).length nc3, .slice nA4 (n.f4).length nc4] 35 (0, 0))))
           case first =>
             go_wp2_with fail
             refine (h1 _).mono ?_
             rintro e_ v1 ⟨rfl, hb⟩
             replace B2 := Aside0.mk (below_blk B2.out hb)
             replace B7 := Aside0.mk (below_blk B7.out hb)
             replace HB := Aside0.mk (below_step HB.out hb)
             clear hb h1 c7_0 c7_1 c7_2 c7_3 c7_4
             have c7_0 := (blk_cell B7.out 0).trans rfl
             have c7_1 := (blk_cell B7.out 1).trans rfl
             have c7_2 := (blk_cell B7.out 2).trans rfl
             have c7_3 := (blk_cell B7.out 3).trans rfl
             have c7_4 := (blk_cell B7.out 4).trans rfl
             cases b1 with
             | false =>
               have HQ := Aside0.mk (show rnodeB made n = (false && n.f4.all (ritemB made)) by rw [HNB.out]; rfl)
               clear h2 h3 h4
               go_wp2_with fail
               go_meet
               case rel => exact ⟨_, rfl, HQ, HB, B2, B7⟩
             | true =>
             go_wp2_with fail
             refine (h2 _ HB.out).mono ?_
             rintro e_ v2 ⟨rfl, hb⟩
             replace B2 := Aside0.mk (below_blk B2.out hb)
             replace B7 := Aside0.mk (below_blk B7.out hb)
             replace HB := Aside0.mk (below_step HB.out hb)
             clear hb h2 c7_0 c7_1 c7_2 c7_3 c7_4
             have c7_0 := (blk_cell B7.out 0).trans rfl
             have c7_1 := (blk_cell B7.out 1).trans rfl
             have c7_2 := (blk_cell B7.out 2).trans rfl
             have c7_3 := (blk_cell B7.out 3).trans rfl
             have c7_4 := (blk_cell B7.out 4).trans rfl
             cases b2 with
             | false =>
               have HQ := Aside0.mk (show rnodeB made n = (false && n.f4.all (ritemB made)) by rw [HNB.out]; rfl)
               clear h3 h4
               go_wp2_with fail
               go_meet
               case rel => exact ⟨_, rfl, HQ, HB, B2, B7⟩
             | true =>
             go_wp2_with fail
             refine (h3 _ HB.out).mono ?_
             rintro e_ v3 ⟨rfl, hb⟩
             replace B2 := Aside0.mk (below_blk B2.out hb)
             replace B7 := Aside0.mk (below_blk B7.out hb)
             replace HB := Aside0.mk (below_step HB.out hb)
             clear hb h3 c7_0 c7_1 c7_2 c7_3 c7_4
             have c7_0 := (blk_cell B7.out 0).trans rfl
             have c7_1 := (blk_cell B7.out 1).trans rfl
             have c7_2 := (blk_cell B7.out 2).trans rfl
             have c7_3 := (blk_cell B7.out 3).trans rfl
             have c7_4 := (blk_cell B7.out 4).trans rfl
             cases b3 with
             | false =>
               have HQ := Aside0.mk (show rnodeB made n = (false && n.f4.all (ritemB made)) by rw [HNB.out]; rfl)
               clear h4
               go_wp2_with fail
               go_meet
               case rel => exact ⟨_, rfl, HQ, HB, B2, B7⟩
             | true =>
             go_wp2_with fail
             refine (h4 _ HB.out).mono ?_
             rintro e_ v4 ⟨rfl, hb⟩
             replace B2 := Aside0.mk (below_blk B2.out hb)
             replace B7 := Aside0.mk (below_blk B7.out hb)
             replace HB := Aside0.mk (below_step HB.out hb)
             clear hb h4 c7_0 c7_1 c7_2 c7_3 c7_4
             have c7_0 := (blk_cell B7.out 0).trans rfl
             have c7_1 := (blk_cell B7.out 1).trans rfl
             have c7_2 := (blk_cell B7.out 2).trans rfl
             have c7_3 := (blk_cell B7.out 3).trans rfl
             have c7_4 := (blk_cell B7.out 4).trans rfl
             cases b4 with
             | false =>
               have HQ := Aside0.mk (show rnodeB made n = (false && n.f4.all (ritemB made)) by rw [HNB.out]; rfl)
               go_wp2_with fail
               go_meet
               case rel => exact ⟨_, rfl, HQ, HB, B2, B7⟩
             | true =>
             have HNB2 := Aside0.mk (show rnodeB made n = ((made || decide ((n.f4.length : Int) ≤ 24)) && n.f4.all (ritemB made)) by rw [HNB.out]; rfl)
             clear HNB
             cases made with
             | true =>
               have HQ := Aside0.mk (show rnodeB true n = (true && n.f4.all (ritemB true)) by rw [HNB2.out]; rfl)
               go_wp2_with fail
               go_meet
               case rel => exact ⟨_, rfl, HQ, HB, B2, B7⟩
             | false =>
               by_cases d5 : (n.f4.length : Int) > 24
               · have HQ := Aside0.mk (show rnodeB false n = (false && n.f4.all (ritemB false)) by rw [HNB2.out, decide_eq_false (show ¬ (n.f4.length : Int) ≤ 24 by omega)]; rfl)
                 go_wp2_with fail
                 go_meet
                 case rel => exact ⟨_, rfl, HQ, HB, B2, B7⟩
               · have HQ := Aside0.mk (show rnodeB false n = (true && n.f4.all (ritemB false)) by rw [HNB2.out, decide_eq_true (show (n.f4.length : Int) ≤ 24 by omega)]; rfl)
                 have d5b : ¬ (24 : Int) < (n.f4.length : Int) := by omega
                 have d5c : decide ((24 : Int) < (n.f4.length : Int)) = false := decide_eq_false d5b
                 go_wp2_with fail
                 go_meet
                 case rel => exact ⟨_, rfl, HQ, HB, B2, B7⟩
           case rest =>
             clear HB B2 B7 HNB h1 h2 h3 h4 c7_0 c7_1 c7_2 c7_3 c7_4
             obtain ⟨q, rfl, HQ, HB, B2, B7⟩ := hcut
             cases q with
             | false =>
               have HNB0 := Aside0.mk (show rnodeB made n = false by rw [HQ.out]; rfl)
               go_wp2_with fail
               go_ret
               exact ⟨by rw [HF3.out, all_getD_no ns (rnodeB made) z35 kkb hltb (by rw [Yn.out]; exact HNB0.out)]; rfl, HB.out⟩
             | true =>
             have HNB3 := Aside0.mk (show rnodeB made n = n.f4.all (ritemB made) by rw [HQ.out]; rfl)
             clear HQ
             have c7_0 := (blk_cell B7.out 0).trans rfl
             have c7_1 := (blk_cell B7.out 1).trans rfl
             have c7_2 := (blk_cell B7.out 2).trans rfl
             have c7_3 := (blk_cell B7.out 3).trans rfl
             have c7_4 := (blk_cell B7.out 4).trans rfl
             go_wp2_with fail
             clear c7_0 c7_1 c7_2 c7_3 c7_4
             go_loopg [8] n.f4.length (fun gg s_ wr => ∃ (kkc : Nat), kkc ≤ n.f4.length ∧ n.f4.length - kkc ≤ gg ∧ s_ = .int .i64 kkc ∧ Aside0 (Below w.heap.size w wr) ∧ Aside0 (wr.heap[g2]? = some (.cells #[.slice Ae es.length ce, .slice (some nad) ns.length cn] 25 (0, 0))) ∧ Aside0 (wr.heap[g7]? = some (.cells #[.string n.f0, .slice nA1 (n.f1).length nc1, .slice nA2 (n.f2).length nc2, .slice nA3 (n.f3).length nc3, .slice nA4 (n.f4).length nc4] 35 (0, 0))) ∧ Aside0 (∀ j, j < kkc → ritemB made (n.f4.getD j z47) = true))
             case atStart => exact ⟨0, Nat.zero_le _, by omega, rfl, HB, B2, B7, ⟨upto_none (P := ritemB made)⟩⟩
             case round =>
               clear HB B2 B7
               obtain ⟨kkc, hkkc, hgkkc, rfl, HB, B2, B7, Nc⟩ := hrel
               have hmxc : n.f4.length ≤ 9223372036854775807 := (nG4.out).2.1
               by_cases hltc : kkc < n.f4.length
               · have hltzc : (kkc : Int) < (n.f4.length : Int) := by omega
                 have c7_0 := (blk_cell B7.out 0).trans rfl
                 have c7_1 := (blk_cell B7.out 1).trans rfl
                 have c7_2 := (blk_cell B7.out 2).trans rfl
                 have c7_3 := (blk_cell B7.out 3).trans rfl
                 have c7_4 := (blk_cell B7.out 4).trans rfl
                 obtain ⟨yad, ycs, rfl, _, yK, ycc⟩ := Kd.C_get nG4.out z47 (kkc : Int) (by omega) (by omega)
                 have yK' := yK
                 obtain ⟨yA0, yc0, yA4, yc4, yA5, yc5, yA6, yc6, rfl, yl0, yg0, yl4, yg4, yl5, yg5, yl6, yg6⟩ := k47_open yK'
                 have yx0 := (HB.out.cell (World.block_lt_of_cell? w _ (ycc 0 _ rfl))).trans (ycc 0 _ rfl)
                 have yx1 := (HB.out.cell (World.block_lt_of_cell? w _ (ycc 1 _ rfl))).trans (ycc 1 _ rfl)
                 have yx2 := (HB.out.cell (World.block_lt_of_cell? w _ (ycc 2 _ rfl))).trans (ycc 2 _ rfl)
                 have yx3 := (HB.out.cell (World.block_lt_of_cell? w _ (ycc 3 _ rfl))).trans (ycc 3 _ rfl)
                 have yx4 := (HB.out.cell (World.block_lt_of_cell? w _ (ycc 4 _ rfl))).trans (ycc 4 _ rfl)
                 have yx5 := (HB.out.cell (World.block_lt_of_cell? w _ (ycc 5 _ rfl))).trans (ycc 5 _ rfl)
                 have yx6 := (HB.out.cell (World.block_lt_of_cell? w _ (ycc 6 _ rfl))).trans (ycc 6 _ rfl)
                 rw [show (k47).sz = 7 from rfl, Nat.add_zero, Int.toNat_natCast] at yx0
                 rw [show (k47).sz = 7 from rfl, Int.toNat_natCast, add_field _ _ 1 (by omega)] at yx1
                 rw [show (k47).sz = 7 from rfl, Int.toNat_natCast, add_field _ _ 2 (by omega)] at yx2
                 rw [show (k47).sz = 7 from rfl, Int.toNat_natCast, add_field _ _ 3 (by omega)] at yx3
                 rw [show (k47).sz = 7 from rfl, Int.toNat_natCast, add_field _ _ 4 (by omega)] at yx4
                 rw [show (k47).sz = 7 from rfl, Int.toNat_natCast, add_field _ _ 5 (by omega)] at yx5
                 rw [show (k47).sz = 7 from rfl, Int.toNat_natCast, add_field _ _ 6 (by omega)] at yx6
                 clear ycc
                 try simp only [Int.toNat_natCast] at yx0 yx1 yx2 yx3 yx4 yx5 yx6 yK yl0 yg0 yl4 yg4 yl5 yg5 yl6 yg6
                 generalize Yy0 : n.f4.getD kkc z47 = y at yx0 yx1 yx2 yx3 yx4 yx5 yx6 yK yl0 yg0 yl4 yg4 yl5 yg5 yl6 yg6
                 have Yy := Aside0.mk Yy0; clear Yy0
                 have yL0 := Aside0.mk yl0; have yG0 := Aside0.mk yg0; clear yl0 yg0
                 have yL4 := Aside0.mk yl4; have yG4 := Aside0.mk yg4; clear yl4 yg4
                 have yL5 := Aside0.mk yl5; have yG5 := Aside0.mk yg5; clear yl5 yg5
                 have yL6 := Aside0.mk yl6; have yG6 := Aside0.mk yg6; clear yl6 yg6
                 have hi := fun (W : World) (hB : Below w.heap.size w W) => ritem_calls made y W _ (Kd.K_below _ hB yK)
                 clear yK
                 generalize hib : ritemB made y = ib at hi
                 have HIB := Aside0.mk hib; clear hib
                 go_wp2_with fail
                 refine (hi _ HB.out).mono ?_
                 rintro e_ w8 ⟨rfl, hb⟩
                 replace B2 := Aside0.mk (below_blk B2.out hb)
                 replace B7 := Aside0.mk (below_blk B7.out hb)
                 replace HB := Aside0.mk (below_step HB.out hb)
                 clear hb hi c7_0 c7_1 c7_2 c7_3 c7_4 yx0 yx1 yx2 yx3 yx4 yx5 yx6
                 cases ib with
                 | false =>
                   have HNB0 := Aside0.mk (show rnodeB made n = false by rw [HNB3.out, all_getD_no n.f4 (ritemB made) z47 kkc hltc (by rw [Yy.out]; exact HIB.out)])
                   go_wp2_with fail
                   go_ret
                   exact ⟨by rw [HF3.out, all_getD_no ns (rnodeB made) z35 kkb hltb (by rw [Yn.out]; exact HNB0.out)]; rfl, HB.out⟩
                 | true =>
                   go_wp2_with fail
                   go_roundg (n.f4.length - (kkc + 1))
                   case measure => omega
                   case rel => exact ⟨kkc + 1, by omega, by omega, by go_num, HB, B2, B7, ⟨upto_step (P := ritemB made) Nc.out Yy.out HIB.out⟩⟩
               · have hltzc : ¬ (kkc : Int) < (n.f4.length : Int) := by omega
                 obtain rfl : kkc = n.f4.length := by omega
                 have HNB4 := Aside0.mk (show rnodeB made n = true by rw [HNB3.out, all_getD n.f4 (ritemB made) z47 Nc.out])
                 clear HNB3 Nc
                 have c7_0 := (blk_cell B7.out 0).trans rfl
                 have c7_1 := (blk_cell B7.out 1).trans rfl
                 have c7_2 := (blk_cell B7.out 2).trans rfl
                 have c7_3 := (blk_cell B7.out 3).trans rfl
                 have c7_4 := (blk_cell B7.out 4).trans rfl
                 go_wp2_with fail
                 clear B7 c7_0 c7_1 c7_2 c7_3 c7_4
                 go_roundg (ns.length - (kkb + 1))
                 case measure => omega
                 case rel => exact ⟨kkb + 1, by omega, by omega, by go_num, HB, B2, ⟨upto_step (P := rnodeB made) Nb.out Yn.out HNB4.out⟩⟩
         · have hltzb : ¬ (kkb : Int) < (ns.length : Int) := by omega
           obtain rfl : kkb = ns.length := by omega
           have c2_0 := (blk_cell B2.out 0).trans rfl
           have c2_1 := (blk_cell B2.out 1).trans rfl
           go_wp2_with fail
           go_ret
           exact ⟨by rw [HF3.out, all_getD ns (rnodeB made) z35 Nb.out]; rfl, HB.out⟩
def rsizeSays (x : S42) : Prop := ∀ (w : World) (cs : List Value), k42.K w x cs → Calls Tryz.prog 20 #[.agg cs.toArray] w fun e w' => e = .returned (.int .i64 (sizeE x)) ∧ Below w.heap.size w w'
set_option maxHeartbeats 4000000 in
theorem rsize_step (x : S42) (ih : ∀ i, i < x.f4.length → rsizeSays (x.f4.getD i z42)) : rsizeSays x := by
 intro w csx hK
 obtain ⟨A3, c3, A4, c4, rfl, l3, g3, l4, g4⟩ := k42_open hK
 clear hK
 have L3 := Aside0.mk l3; have G3 := Aside0.mk g3; clear l3 g3
 have L4 := Aside0.mk l4; have G4 := Aside0.mk g4; clear l4 g4
 have HB := Aside0.mk (Below.refl w.heap.size w)
 have IH := Aside0.mk ih
 clear ih
 have HF := Aside0.mk (sizeE_eq x)
 have hu := Tryz.underlying42
 go_enter Tryz.func20, Tryz.ntmps20
 go_wp2_with ((with_reducible refine gate_dst (N := 1) rfl ?_); refine box_event ?hg (N := 1) ?hd (cs := #[.int .i64 x.f0, .string x.f1, .int .i64 x.f2, .slice A3 (x.f3).length c3, .slice A4 (x.f4).length c4]) (t := 42) ?hr ?_; (case hd => rfl); (case hg => rfl); (case hr => first | (go_simp; done) | (go_simp; rfl)); intro g1 hg_ w_ hbox hb; have B1 := Aside0.mk hbox; have LB1 := Aside0.mk ((by rw [hg_]; exact below_size HB.out) : w.heap.size ≤ g1); replace HB := Aside0.mk (below_step HB.out hb); clear hb hbox hg_; have cg1_0 := (blk_cell B1.out 0).trans rfl; have cg1_1 := (blk_cell B1.out 1).trans rfl; have cg1_2 := (blk_cell B1.out 2).trans rfl; have cg1_3 := (blk_cell B1.out 3).trans rfl; have cg1_4 := (blk_cell B1.out 4).trans rfl)
 clear cg1_0 cg1_1 cg1_2 cg1_3 cg1_4
 go_loopg [3, 4] x.f4.length (fun gg s3 s4 wr => ∃ (kk : Nat) (n : Int), kk ≤ x.f4.length ∧ x.f4.length - kk ≤ gg ∧ s4 = .int .i64 kk ∧ s3 = .int .i64 n ∧ Aside0 (Below w.heap.size w wr) ∧ Aside0 (wr.heap[g1]? = some (.cells #[.int .i64 x.f0, .string x.f1, .int .i64 x.f2, .slice A3 (x.f3).length c3, .slice A4 (x.f4).length c4] 42 (0, 0))) ∧ Aside0 (sizeL (x.f4.drop kk) n = sizeL x.f4 1))
 case atStart => exact ⟨0, 1, Nat.zero_le _, by omega, rfl, rfl, HB, B1, ⟨rfl⟩⟩
 case round =>
   clear HB B1
   obtain ⟨kk, n, hkk, hg, rfl, rfl, HB, B1, N⟩ := hrel
   have hmx : x.f4.length ≤ 9223372036854775807 := (G4.out).2.1
   have cg1_0 := (blk_cell B1.out 0).trans rfl
   have cg1_1 := (blk_cell B1.out 1).trans rfl
   have cg1_2 := (blk_cell B1.out 2).trans rfl
   have cg1_3 := (blk_cell B1.out 3).trans rfl
   have cg1_4 := (blk_cell B1.out 4).trans rfl
   by_cases hlt : kk < x.f4.length
   · have hltz : (kk : Int) < (x.f4.length : Int) := by omega
     have hst := sizeL_step x.f4 kk hlt n
     obtain ⟨ead, ecs, rfl, _, eK, ecc⟩ := Kd.C_get G4.out z42 (kk : Int) (by omega) (by omega)
     have eK' := eK
     obtain ⟨eA3, ec3, eA4, ec4, rfl, el3, eg3, el4, eg4⟩ := k42_open eK'
     have ex0 := (HB.out.cell (World.block_lt_of_cell? w _ (ecc 0 _ rfl))).trans (ecc 0 _ rfl)
     have ex1 := (HB.out.cell (World.block_lt_of_cell? w _ (ecc 1 _ rfl))).trans (ecc 1 _ rfl)
     have ex2 := (HB.out.cell (World.block_lt_of_cell? w _ (ecc 2 _ rfl))).trans (ecc 2 _ rfl)
     have ex3 := (HB.out.cell (World.block_lt_of_cell? w _ (ecc 3 _ rfl))).trans (ecc 3 _ rfl)
     have ex4 := (HB.out.cell (World.block_lt_of_cell? w _ (ecc 4 _ rfl))).trans (ecc 4 _ rfl)
     rw [show (k42).sz = 5 from rfl, Nat.add_zero, Int.toNat_natCast] at ex0
     rw [show (k42).sz = 5 from rfl, Int.toNat_natCast, add_field _ _ 1 (by omega)] at ex1
     rw [show (k42).sz = 5 from rfl, Int.toNat_natCast, add_field _ _ 2 (by omega)] at ex2
     rw [show (k42).sz = 5 from rfl, Int.toNat_natCast, add_field _ _ 3 (by omega)] at ex3
     rw [show (k42).sz = 5 from rfl, Int.toNat_natCast, add_field _ _ 4 (by omega)] at ex4
     clear ecc
     try simp only [Int.toNat_natCast] at ex0 ex1 ex2 ex3 ex4 eK el3 eg3 el4 eg4
     have hih := IH.out kk hlt
     generalize Yy0 : x.f4.getD kk z42 = y at hst hih ex0 ex1 ex2 ex3 ex4 eK el3 eg3 el4 eg4
     have Yy := Aside0.mk Yy0; clear Yy0
     have eL3 := Aside0.mk el3; have eG3 := Aside0.mk eg3; clear el3 eg3
     have eL4 := Aside0.mk el4; have eG4 := Aside0.mk eg4; clear el4 eg4
     have hrec := fun (W : World) (hB : Below w.heap.size w W) => hih W _ (Kd.K_below _ hB eK)
     have HST := Aside0.mk hst
     clear hst hih eK
     generalize sizeE y = v at hrec HST
     go_wp2_with fail
     refine (hrec _ HB.out).mono ?_
     rintro e w5 ⟨rfl, hb⟩
     replace B1 := Aside0.mk (below_blk B1.out hb)
     replace HB := Aside0.mk (below_step HB.out hb)
     clear hb hrec ex0 ex1 ex2 ex3 ex4 cg1_0 cg1_1 cg1_2 cg1_3 cg1_4
     go_wp2_with fail
     all_goals
       go_roundg (x.f4.length - (kk + 1))
       case measure => omega
       case rel =>
         refine ⟨kk + 1, _, by omega, by omega, by go_num, rfl, HB, B1, ⟨?_⟩⟩
         have h1 := HST.out.symm.trans N.out
         first | exact h1 | (rw [Int.max_eq_right (by omega)] at h1; exact h1) | (rw [Int.max_eq_left (by omega)] at h1; exact h1)
   · have hltz : ¬ (kk : Int) < (x.f4.length : Int) := by omega
     obtain rfl : kk = x.f4.length := by omega
     have hn := N.out
     rw [List.drop_length, sizeL] at hn
     have HN := Aside0.mk hn; clear hn
     go_wp2_with fail
     go_ret
     exact ⟨by rw [HF.out, ← HN.out]; rfl, HB.out⟩
theorem rsize_says (n : Nat) : ∀ x : S42, SizeOf.sizeOf x ≤ n → rsizeSays x := by
 induction n with
 | zero => intro x h; exfalso; cases x; simp only [S42.mk.sizeOf_spec] at h; omega
 | succ n ih => intro x h; exact rsize_step x (fun i hi => ih _ (by have := sizeOf_kid x i hi; omega))
theorem rsize_calls (x : S42) (w : World) (cs : List Value) (hK : k42.K w x cs) : Calls Tryz.prog 20 #[.agg cs.toArray] w fun e w' => e = .returned (.int .i64 (sizeE x)) ∧ Below w.heap.size w w' := rsize_says _ x (Nat.le_refl _) w cs hK
def rdepthSays (x : S42) : Prop := ∀ (w : World) (cs : List Value), k42.K w x cs → Calls Tryz.prog 21 #[.agg cs.toArray] w fun e w' => e = .returned (.int .i64 (depthE x)) ∧ Below w.heap.size w w'
set_option maxHeartbeats 4000000 in
theorem rdepth_step (x : S42) (ih : ∀ i, i < x.f4.length → rdepthSays (x.f4.getD i z42)) : rdepthSays x := by
 intro w csx hK
 obtain ⟨A3, c3, A4, c4, rfl, l3, g3, l4, g4⟩ := k42_open hK
 clear hK
 have L3 := Aside0.mk l3; have G3 := Aside0.mk g3; clear l3 g3
 have L4 := Aside0.mk l4; have G4 := Aside0.mk g4; clear l4 g4
 have HB := Aside0.mk (Below.refl w.heap.size w)
 have IH := Aside0.mk ih
 clear ih
 have HF := Aside0.mk (depthE_eq x)
 have hu := Tryz.underlying42
 go_enter Tryz.func21, Tryz.ntmps21
 go_wp2_with ((with_reducible refine gate_dst (N := 1) rfl ?_); refine box_event ?hg (N := 1) ?hd (cs := #[.int .i64 x.f0, .string x.f1, .int .i64 x.f2, .slice A3 (x.f3).length c3, .slice A4 (x.f4).length c4]) (t := 42) ?hr ?_; (case hd => rfl); (case hg => rfl); (case hr => first | (go_simp; done) | (go_simp; rfl)); intro g1 hg_ w_ hbox hb; have B1 := Aside0.mk hbox; have LB1 := Aside0.mk ((by rw [hg_]; exact below_size HB.out) : w.heap.size ≤ g1); replace HB := Aside0.mk (below_step HB.out hb); clear hb hbox hg_; have cg1_0 := (blk_cell B1.out 0).trans rfl; have cg1_1 := (blk_cell B1.out 1).trans rfl; have cg1_2 := (blk_cell B1.out 2).trans rfl; have cg1_3 := (blk_cell B1.out 3).trans rfl; have cg1_4 := (blk_cell B1.out 4).trans rfl)
 clear cg1_0 cg1_1 cg1_2 cg1_3 cg1_4
 go_loopg [3, 4] x.f4.length (fun gg s3 s4 wr => ∃ (kk : Nat) (n : Int), kk ≤ x.f4.length ∧ x.f4.length - kk ≤ gg ∧ s4 = .int .i64 kk ∧ s3 = .int .i64 n ∧ Aside0 (Below w.heap.size w wr) ∧ Aside0 (wr.heap[g1]? = some (.cells #[.int .i64 x.f0, .string x.f1, .int .i64 x.f2, .slice A3 (x.f3).length c3, .slice A4 (x.f4).length c4] 42 (0, 0))) ∧ Aside0 (depthL (x.f4.drop kk) n = depthL x.f4 0))
 case atStart => exact ⟨0, 0, Nat.zero_le _, by omega, rfl, rfl, HB, B1, ⟨rfl⟩⟩
 case round =>
   clear HB B1
   obtain ⟨kk, n, hkk, hg, rfl, rfl, HB, B1, N⟩ := hrel
   have hmx : x.f4.length ≤ 9223372036854775807 := (G4.out).2.1
   have cg1_0 := (blk_cell B1.out 0).trans rfl
   have cg1_1 := (blk_cell B1.out 1).trans rfl
   have cg1_2 := (blk_cell B1.out 2).trans rfl
   have cg1_3 := (blk_cell B1.out 3).trans rfl
   have cg1_4 := (blk_cell B1.out 4).trans rfl
   by_cases hlt : kk < x.f4.length
   · have hltz : (kk : Int) < (x.f4.length : Int) := by omega
     have hst := depthL_step x.f4 kk hlt n
     obtain ⟨ead, ecs, rfl, _, eK, ecc⟩ := Kd.C_get G4.out z42 (kk : Int) (by omega) (by omega)
     have eK' := eK
     obtain ⟨eA3, ec3, eA4, ec4, rfl, el3, eg3, el4, eg4⟩ := k42_open eK'
     have ex0 := (HB.out.cell (World.block_lt_of_cell? w _ (ecc 0 _ rfl))).trans (ecc 0 _ rfl)
     have ex1 := (HB.out.cell (World.block_lt_of_cell? w _ (ecc 1 _ rfl))).trans (ecc 1 _ rfl)
     have ex2 := (HB.out.cell (World.block_lt_of_cell? w _ (ecc 2 _ rfl))).trans (ecc 2 _ rfl)
     have ex3 := (HB.out.cell (World.block_lt_of_cell? w _ (ecc 3 _ rfl))).trans (ecc 3 _ rfl)
     have ex4 := (HB.out.cell (World.block_lt_of_cell? w _ (ecc 4 _ rfl))).trans (ecc 4 _ rfl)
     rw [show (k42).sz = 5 from rfl, Nat.add_zero, Int.toNat_natCast] at ex0
     rw [show (k42).sz = 5 from rfl, Int.toNat_natCast, add_field _ _ 1 (by omega)] at ex1
     rw [show (k42).sz = 5 from rfl, Int.toNat_natCast, add_field _ _ 2 (by omega)] at ex2
     rw [show (k42).sz = 5 from rfl, Int.toNat_natCast, add_field _ _ 3 (by omega)] at ex3
     rw [show (k42).sz = 5 from rfl, Int.toNat_natCast, add_field _ _ 4 (by omega)] at ex4
     clear ecc
     try simp only [Int.toNat_natCast] at ex0 ex1 ex2 ex3 ex4 eK el3 eg3 el4 eg4
     have hih := IH.out kk hlt
     generalize Yy0 : x.f4.getD kk z42 = y at hst hih ex0 ex1 ex2 ex3 ex4 eK el3 eg3 el4 eg4
     have Yy := Aside0.mk Yy0; clear Yy0
     have eL3 := Aside0.mk el3; have eG3 := Aside0.mk eg3; clear el3 eg3
     have eL4 := Aside0.mk el4; have eG4 := Aside0.mk eg4; clear el4 eg4
     have hrec := fun (W : World) (hB : Below w.heap.size w W) => hih W _ (Kd.K_below _ hB eK)
     have HST := Aside0.mk hst
     clear hst hih eK
     generalize depthE y = v at hrec HST
     go_wp2_with fail
     refine (hrec _ HB.out).mono ?_
     rintro e w5 ⟨rfl, hb⟩
     replace B1 := Aside0.mk (below_blk B1.out hb)
     replace HB := Aside0.mk (below_step HB.out hb)
     clear hb hrec ex0 ex1 ex2 ex3 ex4 cg1_0 cg1_1 cg1_2 cg1_3 cg1_4
     go_wp2_with fail
     all_goals
       go_roundg (x.f4.length - (kk + 1))
       case measure => omega
       case rel =>
         refine ⟨kk + 1, _, by omega, by omega, by go_num, rfl, HB, B1, ⟨?_⟩⟩
         have h1 := HST.out.symm.trans N.out
         first | exact h1 | (rw [Int.max_eq_right (by omega)] at h1; exact h1) | (rw [Int.max_eq_left (by omega)] at h1; exact h1)
   · have hltz : ¬ (kk : Int) < (x.f4.length : Int) := by omega
     obtain rfl : kk = x.f4.length := by omega
     have hn := N.out
     rw [List.drop_length, depthL] at hn
     have HN := Aside0.mk hn; clear hn
     go_wp2_with fail
     go_ret
     exact ⟨by rw [HF.out, ← HN.out]; rfl, HB.out⟩
theorem rdepth_says (n : Nat) : ∀ x : S42, SizeOf.sizeOf x ≤ n → rdepthSays x := by
 induction n with
 | zero => intro x h; exfalso; cases x; simp only [S42.mk.sizeOf_spec] at h; omega
 | succ n ih => intro x h; exact rdepth_step x (fun i hi => ih _ (by have := sizeOf_kid x i hi; omega))
theorem rdepth_calls (x : S42) (w : World) (cs : List Value) (hK : k42.K w x cs) : Calls Tryz.prog 21 #[.agg cs.toArray] w fun e w' => e = .returned (.int .i64 (depthE x)) ∧ Below w.heap.size w w' := rdepth_says _ x (Nat.le_refl _) w cs hK
end Go.Proofs.YtggfnbnochmkdaaGreat
