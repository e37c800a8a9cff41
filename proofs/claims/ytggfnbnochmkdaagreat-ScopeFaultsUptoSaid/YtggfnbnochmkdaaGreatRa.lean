/- The reference: which names an item defines, a node's variables. -/
import Derived.Test.YtggfnbnochmkdaaGreatSd
namespace Go.Proofs.YtggfnbnochmkdaaGreat
open Go Go.RowKit Go.Lib Go.Proofs.YtggfnbnochmkdaaGreatW.PrintWords Go.Proofs.YtggfnbnochmkdaaGreat.PScope
set_option maxRecDepth 100000
set_option linter.unusedSimpArgs false
set_option linter.unusedVariables false
theorem blk_apart {α : Type} {d : Kd α} {e : TypeId} {W w6 : World} {base : Nat} {v : Value} {xs : List α} {g : Nat} {cs : Array Value} {t : TypeId} (h : d.R e W base (fun _ => True) v xs) (hg : W.grownBy w6 v.ownBlock) (hb : W.heap[g]? = some (.cells cs t (0, 0))) (hne : t ≠ e) : w6.heap[g]? = some (.cells cs t (0, 0)) := by
 refine (hg.block g (blk_lt hb) ?_).trans hb
 intro ee
 obtain ⟨_, inner, ho, _⟩ := h
 obtain ⟨cells, hc⟩ := own_typed ho g ee.symm
 rw [hb] at hc
 injection hc with hc
 injection hc with _ h2 _
 exact hne h2
set_option maxHeartbeats 8000000 in
theorem rdefines_calls (x : S47) (w : World) (csx : List Value) (hK : k47.K w x csx) (hlen : (definesL x).length * 16 ≤ 140737488355328) :
   Calls Tryz.prog 8 #[.agg csx.toArray] w (StrsPost (definesL x) w) := by
 obtain ⟨A0, c0, A4, c4, A5, c5, A6, c6, rfl, l0, g0, l4, g4, l5, g5, l6, g6⟩ := k47_open hK
 have L0 := Aside0.mk l0; have G0 := Aside0.mk g0; clear l0 g0
 have L4 := Aside0.mk l4; have G4 := Aside0.mk g4; clear l4 g4
 have L5 := Aside0.mk l5; have G5 := Aside0.mk g5; clear l5 g5
 have L6 := Aside0.mk l6; have G6 := Aside0.mk g6; clear l6 g6
 clear hK
 have HB := Aside0.mk (Below.refl w.heap.size w)
 have hu0 := Tryz.underlying44
 have hu1 := Tryz.underlying65
 have hu2 := Tryz.underlying47
 by_cases e0 : x.f1.length = 0
 · have t0 : ((x.f1.length : Int) == 0) = true := by rw [e0]; rfl
   have HD := Aside0.mk (show definesL x = x.f0.f0 from if_pos e0)
   clear e0 hlen
   go_enter Tryz.func8, Tryz.ntmps8
   go_wp2_with ((with_reducible refine gate_dst (N := 1) rfl ?_); refine box_event ?hg (N := 1) ?hd (cs := #[.slice A0 (x.f0.f0).length c0, .int .i64 x.f0.f1.f0, .string x.f0.f1.f1, .int .i64 x.f0.f1.f2, .slice A4 (x.f0.f1.f3).length c4, .slice A5 (x.f0.f1.f4).length c5, .slice A6 (x.f1).length c6]) (t := 47) ?hr ?_; (case hd => rfl); (case hg => rfl); (case hr => first | (go_simp; done) | (go_simp; rfl)); intro g1 hg_ w_ hbox hb; have B1 := Aside0.mk hbox; have LB1 := Aside0.mk ((by rw [hg_]; exact below_size HB.out) : w.heap.size ≤ g1); replace HB := Aside0.mk (below_step HB.out hb); clear hb hbox hg_; have c1_0 := (blk_cell B1.out 0).trans rfl; have c1_1 := (blk_cell B1.out 1).trans rfl; have c1_2 := (blk_cell B1.out 2).trans rfl; have c1_3 := (blk_cell B1.out 3).trans rfl; have c1_4 := (blk_cell B1.out 4).trans rfl; have c1_5 := (blk_cell B1.out 5).trans rfl; have c1_6 := (blk_cell B1.out 6).trans rfl)
   go_ret
   rw [HD.out]
   exact ⟨A0, c0, rfl, L0.out, Kd.C_below G0.out HB.out, HB.out⟩
 have t0 : ((x.f1.length : Int) == 0) = false := beq_eq_false_iff_ne.2 (by omega)
 have HD := Aside0.mk (show definesL x = (x.f1.getD 0 z65).f1.flatMap (fun q => q.f0) from if_neg e0)
 rw [HD.out] at hlen
 have hpz : (0 : Int) < (x.f1.length : Int) := by omega
 obtain ⟨ead, ecs, rfl, _, eK, ecc⟩ := Kd.C_get G6.out z65 ((0 : Nat) : Int) (by omega) (by omega)
 have eK' := eK
 obtain ⟨eA1, ec1, eA2, ec2, rfl, el1, eg1, el2, eg2⟩ := k65_open eK'
 have ex0 := (HB.out.cell (World.block_lt_of_cell? w _ (ecc 0 _ rfl))).trans (ecc 0 _ rfl)
 have ex1 := (HB.out.cell (World.block_lt_of_cell? w _ (ecc 1 _ rfl))).trans (ecc 1 _ rfl)
 have ex2 := (HB.out.cell (World.block_lt_of_cell? w _ (ecc 2 _ rfl))).trans (ecc 2 _ rfl)
 rw [show (k65).sz = 3 from rfl, Nat.add_zero, Int.toNat_natCast] at ex0
 rw [show (k65).sz = 3 from rfl, Int.toNat_natCast, add_field _ _ 1 (by omega)] at ex1
 rw [show (k65).sz = 3 from rfl, Int.toNat_natCast, add_field _ _ 2 (by omega)] at ex2
 clear ecc
 try simp only [Int.toNat_natCast] at ex0 ex1 ex2 eK el1 eg1 el2 eg2
 generalize Ys0 : x.f1.getD 0 z65 = s at HD hlen ex0 ex1 ex2 eK el1 eg1 el2 eg2
 have Ys := Aside0.mk Ys0; clear Ys0
 have eL1 := Aside0.mk el1; have eG1 := Aside0.mk eg1; clear el1 eg1
 have eL2 := Aside0.mk el2; have eG2 := Aside0.mk eg2; clear el2 eg2
 simp only [Nat.zero_mul, add_zero'] at ex0 ex1 ex2
 have HX1 := Aside0.mk ex1
 have HPZ := Aside0.mk hpz
 clear e0 ex0 ex1 ex2 hpz
 go_enter Tryz.func8, Tryz.ntmps8
 go_wp2_with ((with_reducible refine gate_dst (N := 1) rfl ?_); refine box_event ?hg (N := 1) ?hd (cs := #[.slice A0 (x.f0.f0).length c0, .int .i64 x.f0.f1.f0, .string x.f0.f1.f1, .int .i64 x.f0.f1.f2, .slice A4 (x.f0.f1.f3).length c4, .slice A5 (x.f0.f1.f4).length c5, .slice (some ead) (x.f1).length c6]) (t := 47) ?hr ?_; (case hd => rfl); (case hg => rfl); (case hr => first | (go_simp; done) | (go_simp; rfl)); intro g1 hg_ w_ hbox hb; have B1 := Aside0.mk hbox; have LB1 := Aside0.mk ((by rw [hg_]; exact below_size HB.out) : w.heap.size ≤ g1); replace HB := Aside0.mk (below_step HB.out hb); clear hb hbox hg_; have c1_0 := (blk_cell B1.out 0).trans rfl; have c1_1 := (blk_cell B1.out 1).trans rfl; have c1_2 := (blk_cell B1.out 2).trans rfl; have c1_3 := (blk_cell B1.out 3).trans rfl; have c1_4 := (blk_cell B1.out 4).trans rfl; have c1_5 := (blk_cell B1.out 5).trans rfl; have c1_6 := (blk_cell B1.out 6).trans rfl)
 clear c1_0 c1_1 c1_2 c1_3 c1_4 c1_5 c1_6
 go_loopg [3, 4] s.f1.length (fun gg s3 s4 wr => ∃ (kk : Nat) (v : Value), kk ≤ s.f1.length ∧ s.f1.length - kk ≤ gg ∧ s4 = .int .i64 kk ∧ s3 = v ∧ Aside0 (Below w.heap.size w wr) ∧ Aside0 (wr.heap[g1]? = some (.cells #[.slice A0 (x.f0.f0).length c0, .int .i64 x.f0.f1.f0, .string x.f0.f1.f1, .int .i64 x.f0.f1.f2, .slice A4 (x.f0.f1.f3).length c4, .slice A5 (x.f0.f1.f4).length c5, .slice (some ead) (x.f1).length c6] 47 (0, 0))) ∧ Aside0 (Kd.string.R 9 wr w.heap.size (fun _ => True) v ((s.f1.take kk).flatMap (fun q => q.f0))))
 case atStart => exact ⟨0, _, Nat.zero_le _, by omega, rfl, rfl, HB, B1, ⟨Kd.R_nil _ _ _ _ _⟩⟩
 case round =>
   clear HB B1
   obtain ⟨kk, v, hkk, hg, rfl, rfl, HB, B1, HO⟩ := hrel
   have hmx : s.f1.length ≤ 9223372036854775807 := (eG1.out).2.1
   by_cases hlt : kk < s.f1.length
   · have hltz : (kk : Int) < (s.f1.length : Int) := by omega
     have HFT := flatMap_take s.f1 (fun q => q.f0) z44 kk hlt
     have HLE := flatMap_take_le s.f1 (fun q => q.f0) (kk + 1)
     rw [HFT, List.length_append] at HLE
     obtain ⟨qad, qcs, rfl, _, qK, qcc⟩ := Kd.C_get eG1.out z44 (kk : Int) (by omega) (by omega)
     have qK' := qK
     obtain ⟨qA0, qc0, qA4, qc4, qA5, qc5, rfl, ql0, qg0, ql4, qg4, ql5, qg5⟩ := k44_open qK'
     have qx0 := (HB.out.cell (World.block_lt_of_cell? w _ (qcc 0 _ rfl))).trans (qcc 0 _ rfl)
     have qx1 := (HB.out.cell (World.block_lt_of_cell? w _ (qcc 1 _ rfl))).trans (qcc 1 _ rfl)
     have qx2 := (HB.out.cell (World.block_lt_of_cell? w _ (qcc 2 _ rfl))).trans (qcc 2 _ rfl)
     have qx3 := (HB.out.cell (World.block_lt_of_cell? w _ (qcc 3 _ rfl))).trans (qcc 3 _ rfl)
     have qx4 := (HB.out.cell (World.block_lt_of_cell? w _ (qcc 4 _ rfl))).trans (qcc 4 _ rfl)
     have qx5 := (HB.out.cell (World.block_lt_of_cell? w _ (qcc 5 _ rfl))).trans (qcc 5 _ rfl)
     rw [show (k44).sz = 6 from rfl, Nat.add_zero, Int.toNat_natCast] at qx0
     rw [show (k44).sz = 6 from rfl, Int.toNat_natCast, add_field _ _ 1 (by omega)] at qx1
     rw [show (k44).sz = 6 from rfl, Int.toNat_natCast, add_field _ _ 2 (by omega)] at qx2
     rw [show (k44).sz = 6 from rfl, Int.toNat_natCast, add_field _ _ 3 (by omega)] at qx3
     rw [show (k44).sz = 6 from rfl, Int.toNat_natCast, add_field _ _ 4 (by omega)] at qx4
     rw [show (k44).sz = 6 from rfl, Int.toNat_natCast, add_field _ _ 5 (by omega)] at qx5
     clear qcc
     try simp only [Int.toNat_natCast] at qx0 qx1 qx2 qx3 qx4 qx5 qK ql0 qg0 ql4 qg4 ql5 qg5
     generalize Yq0 : s.f1.getD kk z44 = q at HFT HLE qx0 qx1 qx2 qx3 qx4 qx5 qK ql0 qg0 ql4 qg4 ql5 qg5
     have Yq := Aside0.mk Yq0; clear Yq0
     have qL0 := Aside0.mk ql0; have qG0 := Aside0.mk qg0; clear ql0 qg0
     have qL4 := Aside0.mk ql4; have qG4 := Aside0.mk qg4; clear ql4 qg4
     have qL5 := Aside0.mk ql5; have qG5 := Aside0.mk qg5; clear ql5 qg5
     have HL2 := Aside0.mk (show (((s.f1.take kk).flatMap (fun q => q.f0)).length + q.f0.length) * 16 ≤ 140737488355328 by omega)
     have HFT2 := Aside0.mk HFT
     clear HFT HLE
     obtain ⟨Ao, co, rfl⟩ := Kd.R_slice HO.out
     generalize hpre : (s.f1.take kk).flatMap (fun q => q.f0) = pre at HO HL2 HFT2 ⊢
     have HPRE := Aside0.mk hpre; clear hpre
     have ey1 := (HB.out.cell (World.block_lt_of_cell? w _ HX1.out)).trans HX1.out
     have hpz := HPZ.out
     have c1_0 := (blk_cell B1.out 0).trans rfl
     have c1_1 := (blk_cell B1.out 1).trans rfl
     have c1_2 := (blk_cell B1.out 2).trans rfl
     have c1_3 := (blk_cell B1.out 3).trans rfl
     have c1_4 := (blk_cell B1.out 4).trans rfl
     have c1_5 := (blk_cell B1.out 5).trans rfl
     have c1_6 := (blk_cell B1.out 6).trans rfl
     go_wp2_with (at_builtin; refine Kd.R_append_rows Kd.string (w0 := w) w.heap.size rfl _ _ 32 9 (.string ⟨#[]⟩) 16 rfl Tryz.underlying32 info9 rfl (by decide) (by omega) (.slice Ao pre.length co) pre q.f0 qA0 q.f0.length qc0 (fun _ => True) (fun _ => False) rfl rfl ?aO ?aR (fun _ _ h => h) (fun _ h => h.elim) ?aF ?aB ?aS ?aL ?_; (case aO => exact HO.out); (case aR => exact Kd.C_below qG0.out HB.out); (case aF => exact (fun _ _ => trivial)); (case aB => exact HB.out); (case aS => exact (HB.out).size); (case aL => exact HL2.out); intro v1 w6 ho_ hb_ hg_ hat_; have B6 := Aside0.mk (blk_apart HO.out hg_ B1.out (by decide)); have HO6 := Aside0.mk ho_; have HB6 := Aside0.mk hb_; clear ho_ hb_ hg_ hat_)
     go_roundg (s.f1.length - (kk + 1))
     case measure => omega
     case rel => exact ⟨kk + 1, _, by omega, by omega, by go_num, rfl, HB6, B6, ⟨by rw [HFT2.out]; exact HO6.out⟩⟩
   · have hltz : ¬ (kk : Int) < (s.f1.length : Int) := by omega
     obtain rfl : kk = s.f1.length := by omega
     have ho := HO.out
     rw [List.take_length] at ho
     obtain ⟨Ao, co, rfl, hco, hC⟩ := Kd.R_reads ho
     have HCO := Aside0.mk hco; have HCC := Aside0.mk hC
     clear ho hco hC HO
     generalize hfl : s.f1.flatMap (fun q => q.f0) = fl at HCO HCC ⊢
     have HFL := Aside0.mk hfl; clear hfl hlen
     have ey1 := (HB.out.cell (World.block_lt_of_cell? w _ HX1.out)).trans HX1.out
     have hpz := HPZ.out
     have c1_0 := (blk_cell B1.out 0).trans rfl
     have c1_1 := (blk_cell B1.out 1).trans rfl
     have c1_2 := (blk_cell B1.out 2).trans rfl
     have c1_3 := (blk_cell B1.out 3).trans rfl
     have c1_4 := (blk_cell B1.out 4).trans rfl
     have c1_5 := (blk_cell B1.out 5).trans rfl
     have c1_6 := (blk_cell B1.out 6).trans rfl
     go_wp2_with fail
     go_ret
     rw [HD.out, HFL.out]
     exact ⟨Ao, co, rfl, HCO.out, HCC.out, HB.out⟩
set_option maxHeartbeats 8000000 in
theorem rvars_calls (n : S35) (w : World) (csx : List Value) (hK : k35.K w n csx) (hlen : (varsL n).length * 16 ≤ 140737488355328) :
   Calls Tryz.prog 38 #[.agg csx.toArray] w (StrsPost (varsL n) w) := by
 obtain ⟨A1, c1, A2, c2, A3, c3, A4, c4, rfl, l1, g1, l2, g2, l3, g3, l4, g4⟩ := k35_open hK
 have L1 := Aside0.mk l1; have G1 := Aside0.mk g1; clear l1 g1
 have L2 := Aside0.mk l2; have G2 := Aside0.mk g2; clear l2 g2
 have L3 := Aside0.mk l3; have G3 := Aside0.mk g3; clear l3 g3
 have L4 := Aside0.mk l4; have G4 := Aside0.mk g4; clear l4 g4
 clear hK
 have HB := Aside0.mk (Below.refl w.heap.size w)
 have hu1 := Tryz.underlying35
 have hu2 := Tryz.underlying47
 have HD := Aside0.mk (show varsL n = n.f2 ++ n.f4.flatMap definesL from rfl)
 rw [HD.out, List.length_append] at hlen
 have HLL := Aside0.mk hlen
 clear hlen
 go_enter Tryz.func38, Tryz.ntmps38
 go_wp2_with (first | ((with_reducible refine gate_dst (N := 1) rfl ?_); refine box_event ?hg (N := 1) ?hd (cs := #[.string n.f0, .slice A1 (n.f1).length c1, .slice A2 (n.f2).length c2, .slice A3 (n.f3).length c3, .slice A4 (n.f4).length c4]) (t := 35) ?hr ?_; (case hd => rfl); (case hg => rfl); (case hr => first | (go_simp; done) | (go_simp; rfl)); intro g1 hg_ w_ hbox hb; have B1 := Aside0.mk hbox; have LB1 := Aside0.mk ((by rw [hg_]; exact below_size HB.out) : w.heap.size ≤ g1); replace HB := Aside0.mk (below_step HB.out hb); clear hb hbox hg_; have c1_0 := (blk_cell B1.out 0).trans rfl; have c1_1 := (blk_cell B1.out 1).trans rfl; have c1_2 := (blk_cell B1.out 2).trans rfl; have c1_3 := (blk_cell B1.out 3).trans rfl; have c1_4 := (blk_cell B1.out 4).trans rfl) | (at_builtin; refine Kd.R_append_rows Kd.string (w0 := w) w.heap.size rfl _ _ 32 9 (.string ⟨#[]⟩) 16 rfl Tryz.underlying32 info9 rfl (by decide) (by omega) (.slice none 0 0) ([] : List ByteArray) n.f2 A2 n.f2.length c2 (fun _ => True) (fun _ => False) rfl rfl ?aO ?aR (fun _ _ h => h) (fun _ h => h.elim) ?aF ?aB ?aS ?aL ?_; (case aO => exact Kd.R_nil _ _ _ _ _); (case aR => exact Kd.C_below G2.out HB.out); (case aF => exact (fun _ _ => trivial)); (case aB => exact HB.out); (case aS => exact (HB.out).size); (case aL => (have h_ := HLL.out; simp only [List.length_nil]; omega)); intro v1 w6 ho_ hb_ hg_ hat_; have B6 := Aside0.mk (show w6.heap[g1]? = some (.cells #[.string n.f0, .slice A1 (n.f1).length c1, .slice A2 (n.f2).length c2, .slice A3 (n.f3).length c3, .slice A4 (n.f4).length c4] 35 (0, 0)) from (hg_.block g1 (blk_lt B1.out) (by intro e_; cases e_)).trans B1.out); have HO6 := Aside0.mk ho_; have HB6 := Aside0.mk hb_; clear ho_ hb_ hg_ hat_))
 clear c1_0 c1_1 c1_2 c1_3 c1_4
 have HO := Aside0.mk (show Kd.string.R 9 w6 w.heap.size (fun _ => True) v1 (n.f2 ++ (n.f4.take 0).flatMap definesL) by rw [List.take_zero, List.flatMap_nil, List.append_nil]; have h_ := HO6.out; rw [List.nil_append] at h_; exact h_)
 clear HB B1 HO6
 have HB := HB6; have B1 := B6; clear HB6 B6
 go_loopg [3, 4] n.f4.length (fun gg s3 s4 wr => ∃ (kk : Nat) (v : Value), kk ≤ n.f4.length ∧ n.f4.length - kk ≤ gg ∧ s4 = .int .i64 kk ∧ s3 = v ∧ Aside0 (Below w.heap.size w wr) ∧ Aside0 (wr.heap[g1]? = some (.cells #[.string n.f0, .slice A1 (n.f1).length c1, .slice A2 (n.f2).length c2, .slice A3 (n.f3).length c3, .slice A4 (n.f4).length c4] 35 (0, 0))) ∧ Aside0 (Kd.string.R 9 wr w.heap.size (fun _ => True) v (n.f2 ++ (n.f4.take kk).flatMap definesL)))
 case atStart => exact ⟨0, _, Nat.zero_le _, by omega, rfl, rfl, HB, B1, HO⟩
 case round =>
   clear HB B1 HO
   obtain ⟨kk, v, hkk, hg, rfl, rfl, HB, B1, HO⟩ := hrel
   have hmx : n.f4.length ≤ 9223372036854775807 := (G4.out).2.1
   by_cases hlt : kk < n.f4.length
   · have hltz : (kk : Int) < (n.f4.length : Int) := by omega
     have HFT := flatMap_take n.f4 definesL z47 kk hlt
     have HLE := flatMap_take_le n.f4 definesL (kk + 1)
     rw [HFT, List.length_append] at HLE
     have hll := HLL.out
     obtain ⟨yad, ycs, rfl, _, yK, ycc⟩ := Kd.C_get G4.out z47 (kk : Int) (by omega) (by omega)
     have yK' := yK
     obtain ⟨yA0, yc0, yA4, yc4, yA5, yc5, yA6, yc6, rfl, yl0, yg0, yl4, yg4, yl5, yg5, yl6, yg6⟩ := k47_open yK'
     have yx0 := (HB.out.cell (World.block_lt_of_cell? w _ (ycc 0 _ rfl))).trans (ycc 0 _ rfl)
     have yx1 := (HB.out.cell (World.block_lt_of_cell? w _ (ycc 1 _ rfl))).trans (ycc 1 _ rfl)
     have yx2 := (HB.out.cell (World.block_lt_of_cell? w _ (ycc 2 _ rfl))).trans (ycc 2 _ rfl)
     have yx3 := (HB.out.cell (World.block_lt_of_cell? w _ (ycc 3 _ rfl))).trans (ycc 3 _ rfl)
     have yx4 := (HB.out.cell (World.block_lt_of_cell? w _ (ycc 4 _ rfl))).trans (ycc 4 _ rfl)
     have yx5 := (HB.out.cell (World.block_lt_of_cell? w _ (ycc 5 _ rfl))).trans (ycc 5 _ rfl)
     have yx6 := (HB.out.cell (World.block_lt_of_cell? w _ (ycc 6 _ rfl))).trans (ycc 6 _ rfl)
     rw [show (k47).sz = 7 from rfl, Nat.add_zero, Int.toNat_natCast] at yx0
     rw [show (k47).sz = 7 from rfl, Int.toNat_natCast, add_field _ _ 1 (by omega)] at yx1
     rw [show (k47).sz = 7 from rfl, Int.toNat_natCast, add_field _ _ 2 (by omega)] at yx2
     rw [show (k47).sz = 7 from rfl, Int.toNat_natCast, add_field _ _ 3 (by omega)] at yx3
     rw [show (k47).sz = 7 from rfl, Int.toNat_natCast, add_field _ _ 4 (by omega)] at yx4
     rw [show (k47).sz = 7 from rfl, Int.toNat_natCast, add_field _ _ 5 (by omega)] at yx5
     rw [show (k47).sz = 7 from rfl, Int.toNat_natCast, add_field _ _ 6 (by omega)] at yx6
     clear ycc
     try simp only [Int.toNat_natCast] at yx0 yx1 yx2 yx3 yx4 yx5 yx6 yK yl0 yg0 yl4 yg4 yl5 yg5 yl6 yg6
     generalize Yy0 : n.f4.getD kk z47 = y at HFT HLE yx0 yx1 yx2 yx3 yx4 yx5 yx6 yK yl0 yg0 yl4 yg4 yl5 yg5 yl6 yg6
     have Yy := Aside0.mk Yy0; clear Yy0
     have yL0 := Aside0.mk yl0; have yG0 := Aside0.mk yg0; clear yl0 yg0
     have yL4 := Aside0.mk yl4; have yG4 := Aside0.mk yg4; clear yl4 yg4
     have yL5 := Aside0.mk yl5; have yG5 := Aside0.mk yg5; clear yl5 yg5
     have yL6 := Aside0.mk yl6; have yG6 := Aside0.mk yg6; clear yl6 yg6
     have HL1 := Aside0.mk (show (definesL y).length * 16 ≤ 140737488355328 by omega)
     have HL2 := Aside0.mk (show ((n.f2 ++ (n.f4.take kk).flatMap definesL).length + (definesL y).length) * 16 ≤ 140737488355328 by rw [List.length_append]; omega)
     have HFT2 := Aside0.mk HFT
     have YK := Aside0.mk yK
     clear HFT HLE yK hll
     obtain ⟨Ao, co, rfl⟩ := Kd.R_slice HO.out
     have HPRE := Aside0.mk (show (n.f2 ++ (n.f4.take kk).flatMap definesL) ++ definesL y = n.f2 ++ (n.f4.take (kk + 1)).flatMap definesL by rw [HFT2.out, List.append_assoc])
     clear HFT2
     generalize n.f2 ++ (n.f4.take kk).flatMap definesL = pre at HO HL2 HPRE ⊢
     have hde := fun (W : World) (hB : Below w.heap.size w W) => rdefines_calls y W _ (Kd.K_below _ hB YK.out) HL1.out
     generalize definesL y = dl at hde HL2 HPRE
     clear HL1
     have c1_0 := (blk_cell B1.out 0).trans rfl
     have c1_1 := (blk_cell B1.out 1).trans rfl
     have c1_2 := (blk_cell B1.out 2).trans rfl
     have c1_3 := (blk_cell B1.out 3).trans rfl
     have c1_4 := (blk_cell B1.out 4).trans rfl
     go_wp2_with fail
     refine (hde _ HB.out).mono ?_
     rintro e w5 ⟨Ad, cd, rfl, hcd, hC, hb⟩
     have HC := Aside0.mk hC
     replace HO := Aside0.mk (Kd.R_below HO.out hb)
     replace B1 := Aside0.mk (below_blk B1.out hb)
     replace HB := Aside0.mk (below_step HB.out hb)
     clear hde hC hb hcd c1_0 c1_1 c1_2 c1_3 c1_4
     go_wp2_with (at_builtin; refine Kd.R_append_rows Kd.string (w0 := w) w.heap.size rfl _ _ 32 9 (.string ⟨#[]⟩) 16 rfl Tryz.underlying32 info9 rfl (by decide) (by omega) (.slice Ao pre.length co) pre dl Ad dl.length cd (fun _ => True) (fun _ => False) rfl rfl ?aO ?aR (fun _ _ h => h) (fun _ h => h.elim) ?aF ?aB ?aS ?aL ?_; (case aO => exact HO.out); (case aR => exact HC.out); (case aF => exact (fun _ _ => trivial)); (case aB => exact HB.out); (case aS => exact (HB.out).size); (case aL => exact HL2.out); intro v1 w6 ho_ hb_ hg_ hat_; have B6 := Aside0.mk (blk_apart HO.out hg_ B1.out (by decide)); have HO6 := Aside0.mk ho_; have HB6 := Aside0.mk hb_; clear ho_ hb_ hg_ hat_)
     go_roundg (n.f4.length - (kk + 1))
     case measure => omega
     case rel => exact ⟨kk + 1, _, by omega, by omega, by go_num, rfl, HB6, B6, ⟨by rw [← HPRE.out]; exact HO6.out⟩⟩
   · have hltz : ¬ (kk : Int) < (n.f4.length : Int) := by omega
     obtain rfl : kk = n.f4.length := by omega
     have ho := HO.out
     rw [List.take_length, ← HD.out] at ho
     obtain ⟨Ao, co, rfl, hco, hC⟩ := Kd.R_reads ho
     have HCO := Aside0.mk hco; have HCC := Aside0.mk hC
     clear ho hco hC HO
     generalize hfl : varsL n = fl at HCO HCC ⊢
     have HFL := Aside0.mk hfl; clear hfl
     have c1_0 := (blk_cell B1.out 0).trans rfl
     have c1_1 := (blk_cell B1.out 1).trans rfl
     have c1_2 := (blk_cell B1.out 2).trans rfl
     have c1_3 := (blk_cell B1.out 3).trans rfl
     have c1_4 := (blk_cell B1.out 4).trans rfl
     go_wp2_with fail
     go_ret
     rw [HFL.out]
     exact ⟨Ao, co, rfl, HCO.out, HCC.out, HB.out⟩
end Go.Proofs.YtggfnbnochmkdaaGreat
