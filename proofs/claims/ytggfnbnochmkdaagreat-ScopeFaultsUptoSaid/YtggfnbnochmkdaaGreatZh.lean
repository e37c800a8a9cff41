/- The reference: whether all that an item uses is there. -/
import Derived.Test.YtggfnbnochmkdaaGreatZf
namespace Go.Proofs.YtggfnbnochmkdaaGreat
open Go Go.RowKit Go.Lib Go.Proofs.YtggfnbnochmkdaaGreatW.PrintWords Go.Proofs.YtggfnbnochmkdaaGreat.PScope
set_option maxRecDepth 100000
set_option linter.unusedSimpArgs false
set_option linter.unusedVariables false
set_option maxHeartbeats 16000000 in
theorem zitem_walk (es : List S38) (ns : List S35) (Ae An : Option Addr) (ce cn : Nat) (k b : Nat) (made : Bool) (U : S42 → Bool → Int → Bool) (w : World) (hn : k35.C w An ns.length ns) (hk : k < ns.length) (n : S35) (hnk : ns.getD k z35 = n) (hb : b < n.f4.length) (x : S47) (hxb : n.f4.getD b z47 = x)
   (hus : ∀ (y : S42) (W : World) (csy : List Value) (i : Bool) (q : Int), k42.K w y csy → Below w.heap.size w W → exprB made y = true → Calls Tryz.prog 59 #[.agg #[.slice Ae es.length ce, .slice An ns.length cn], .int .i64 (k : Int), .agg csy.toArray, .bool i, .int .i64 q] W fun e w' => e = .returned (.bool (U y i q)) ∧ Below W.heap.size W w')
   (hx : ItemEx made x) :
   Calls Tryz.prog 40 #[.agg #[.slice Ae es.length ce, .slice An ns.length cn], .int .i64 (k : Int), .int .i64 (b : Int)] w fun e w' => e = .returned (.bool (itemUB U x)) ∧ Below w.heap.size w w' := by
 have HN := Aside0.mk hn; have HB := Aside0.mk (Below.refl w.heap.size w); have HX := Aside0.mk hx
 have hkz : (k : Int) < (ns.length : Int) := by omega
 have hbz : (b : Int) < (n.f4.length : Int) := by omega
 have hu1 := Tryz.underlying25; have hu2 := Tryz.underlying35; have hu3 := Tryz.underlying47; have hu4 := Tryz.underlying65; have hu5 := Tryz.underlying44; have hu6 := Tryz.underlying42; have hu7 := Tryz.underlying93
 clear hn hx
 obtain ⟨nad, ncs, rfl, _, nK, ncc⟩ := Kd.C_get HN.out z35 (k : Int) (by omega) (by omega)
 have nK' := nK
 obtain ⟨nA1, nc1, nA2, nc2, nA3, nc3, nA4, nc4, rfl, nl1, ng1, nl2, ng2, nl3, ng3, nl4, ng4⟩ := k35_open nK'
 have nx0 := (HB.out.cell (World.block_lt_of_cell? w _ (ncc 0 _ rfl))).trans (ncc 0 _ rfl)
 have nx1 := (HB.out.cell (World.block_lt_of_cell? w _ (ncc 1 _ rfl))).trans (ncc 1 _ rfl)
 have nx2 := (HB.out.cell (World.block_lt_of_cell? w _ (ncc 2 _ rfl))).trans (ncc 2 _ rfl)
 have nx3 := (HB.out.cell (World.block_lt_of_cell? w _ (ncc 3 _ rfl))).trans (ncc 3 _ rfl)
 have nx4 := (HB.out.cell (World.block_lt_of_cell? w _ (ncc 4 _ rfl))).trans (ncc 4 _ rfl)
 rw [show (k35).sz = 5 from rfl, Nat.add_zero, Int.toNat_natCast] at nx0
 rw [show (k35).sz = 5 from rfl, Int.toNat_natCast, add_field _ _ 1 (by omega)] at nx1
 rw [show (k35).sz = 5 from rfl, Int.toNat_natCast, add_field _ _ 2 (by omega)] at nx2
 rw [show (k35).sz = 5 from rfl, Int.toNat_natCast, add_field _ _ 3 (by omega)] at nx3
 rw [show (k35).sz = 5 from rfl, Int.toNat_natCast, add_field _ _ 4 (by omega)] at nx4
 clear ncc
 try simp only [Int.toNat_natCast] at nx0 nx1 nx2 nx3 nx4 nK nl1 ng1 nl2 ng2 nl3 ng3 nl4 ng4
 rw [hnk] at nx0 nx1 nx2 nx3 nx4 nK nl1 ng1 nl2 ng2 nl3 ng3 nl4 ng4
 clear nK
 have nL1 := Aside0.mk nl1; have nG1 := Aside0.mk ng1; clear nl1 ng1
 have nL2 := Aside0.mk nl2; have nG2 := Aside0.mk ng2; clear nl2 ng2
 have nL3 := Aside0.mk nl3; have nG3 := Aside0.mk ng3; clear nl3 ng3
 have nL4 := Aside0.mk nl4; have nG4 := Aside0.mk ng4; clear nl4 ng4
 obtain ⟨xad, xcs, rfl, _, xK, xcc⟩ := Kd.C_get nG4.out z47 (b : Int) (by omega) (by omega)
 have xK' := xK
 obtain ⟨xA0, xc0, xA4, xc4, xA5, xc5, xA6, xc6, rfl, xl0, xg0, xl4, xg4, xl5, xg5, xl6, xg6⟩ := k47_open xK'
 have xx0 := (HB.out.cell (World.block_lt_of_cell? w _ (xcc 0 _ rfl))).trans (xcc 0 _ rfl)
 have xx1 := (HB.out.cell (World.block_lt_of_cell? w _ (xcc 1 _ rfl))).trans (xcc 1 _ rfl)
 have xx2 := (HB.out.cell (World.block_lt_of_cell? w _ (xcc 2 _ rfl))).trans (xcc 2 _ rfl)
 have xx3 := (HB.out.cell (World.block_lt_of_cell? w _ (xcc 3 _ rfl))).trans (xcc 3 _ rfl)
 have xx4 := (HB.out.cell (World.block_lt_of_cell? w _ (xcc 4 _ rfl))).trans (xcc 4 _ rfl)
 have xx5 := (HB.out.cell (World.block_lt_of_cell? w _ (xcc 5 _ rfl))).trans (xcc 5 _ rfl)
 have xx6 := (HB.out.cell (World.block_lt_of_cell? w _ (xcc 6 _ rfl))).trans (xcc 6 _ rfl)
 rw [show (k47).sz = 7 from rfl, Nat.add_zero, Int.toNat_natCast] at xx0
 rw [show (k47).sz = 7 from rfl, Int.toNat_natCast, add_field _ _ 1 (by omega)] at xx1
 rw [show (k47).sz = 7 from rfl, Int.toNat_natCast, add_field _ _ 2 (by omega)] at xx2
 rw [show (k47).sz = 7 from rfl, Int.toNat_natCast, add_field _ _ 3 (by omega)] at xx3
 rw [show (k47).sz = 7 from rfl, Int.toNat_natCast, add_field _ _ 4 (by omega)] at xx4
 rw [show (k47).sz = 7 from rfl, Int.toNat_natCast, add_field _ _ 5 (by omega)] at xx5
 rw [show (k47).sz = 7 from rfl, Int.toNat_natCast, add_field _ _ 6 (by omega)] at xx6
 clear xcc
 try simp only [Int.toNat_natCast] at xx0 xx1 xx2 xx3 xx4 xx5 xx6 xK xl0 xg0 xl4 xg4 xl5 xg5 xl6 xg6
 rw [hxb] at xx0 xx1 xx2 xx3 xx4 xx5 xx6 xK xl0 xg0 xl4 xg4 xl5 xg5 xl6 xg6
 clear xK
 have xL0 := Aside0.mk xl0; have xG0 := Aside0.mk xg0; clear xl0 xg0
 have xL4 := Aside0.mk xl4; have xG4 := Aside0.mk xg4; clear xl4 xg4
 have xL5 := Aside0.mk xl5; have xG5 := Aside0.mk xg5; clear xl5 xg5
 have xL6 := Aside0.mk xl6; have xG6 := Aside0.mk xg6; clear xl6 xg6
 go_enter Tryz.func40, Tryz.ntmps40
 go_upto_region 2 with (first | ((with_reducible refine gate_dst (N := 3) rfl ?_); refine box_event ?hg (N := 3) ?hd (cs := #[.slice Ae es.length ce, .slice (some nad) ns.length cn]) (t := 25) ?hr ?_; (case hd => rfl); (case hg => rfl); (case hr => first | (go_simp; done) | (go_simp; rfl)); intro g3 hg_ w_ hbox hb; have B3 := Aside0.mk hbox; have LB3 := Aside0.mk ((by rw [hg_]; exact below_size HB.out) : w.heap.size ≤ g3); replace HB := Aside0.mk (below_step HB.out hb); clear hb hbox hg_; have c3_0 := (blk_cell B3.out 0).trans rfl; have c3_1 := (blk_cell B3.out 1).trans rfl; have hn4 := (HB.out.cell (World.block_lt_of_cell? w _ nx4)).trans nx4; have hx0 := (HB.out.cell (World.block_lt_of_cell? w _ xx0)).trans xx0; have hx1 := (HB.out.cell (World.block_lt_of_cell? w _ xx1)).trans xx1; have hx2 := (HB.out.cell (World.block_lt_of_cell? w _ xx2)).trans xx2; have hx3 := (HB.out.cell (World.block_lt_of_cell? w _ xx3)).trans xx3; have hx4 := (HB.out.cell (World.block_lt_of_cell? w _ xx4)).trans xx4; have hx5 := (HB.out.cell (World.block_lt_of_cell? w _ xx5)).trans xx5; have hx6 := (HB.out.cell (World.block_lt_of_cell? w _ xx6)).trans xx6) | ((with_reducible refine gate_store (t := 47) (p := 7) rfl ?_); refine store_whole rfl rfl 47 _ _ rfl w_.heap.size _ 47 rfl (blk_new _ _) _ rfl rfl rfl (by simp [Value.oneCell']) ?_; intro w2 hb2 hg2; clear c3_0 c3_1 hn4 hx0 hx1 hx2 hx3 hx4 hx5 hx6; replace B3 := Aside0.mk (blk_as B3.out hg2); replace HB := Aside0.mk (below_as HB.out hg2); obtain ⟨g7, hq_⟩ : ∃ g_, g_ = w_.heap.size := ⟨_, rfl⟩; rw [← hq_] at hb2; rw [← hq_]; have B7 := Aside0.mk hb2; clear hb2 hg2 hq_))
 clear nx0 nx1 nx2 nx3 nx4 hkz hbz xx0 xx1 xx2 xx3 xx4 xx5 xx6
 generalize w2 = w7 at B3 B7 HB ⊢
 have HK := Aside0.mk (Below.refl w7.heap.size w7)
 by_cases e0 : x.f1.length = 0
 · have t0 : ((x.f1.length : Int) == 0) = true := by rw [e0]; rfl
   have HF := Aside0.mk (show itemUB U x = U x.f0.f1 false x.f0.f0.length from if_pos e0)
   have HE0 := Aside0.mk (HX.out.1 e0)
   clear e0 HX
   have B3x := Aside0.mk (below_blk B3.out HK.out)
   have c3_0 := (blk_cell B3x.out 0).trans rfl
   have c3_1 := (blk_cell B3x.out 1).trans rfl
   have B7x := Aside0.mk (below_blk B7.out HK.out)
   have c7_0 := (blk_cell B7x.out 0).trans rfl
   have c7_1 := (blk_cell B7x.out 1).trans rfl
   have c7_2 := (blk_cell B7x.out 2).trans rfl
   have c7_3 := (blk_cell B7x.out 3).trans rfl
   have c7_4 := (blk_cell B7x.out 4).trans rfl
   have c7_5 := (blk_cell B7x.out 5).trans rfl
   have c7_6 := (blk_cell B7x.out 6).trans rfl
   go_wp2_with fail
   refine (hus x.f0.f1 _ _ false x.f0.f0.length (k42_mk w x.f0.f1 xL4.out xG4.out xL5.out xG5.out) HB.out HE0.out).mono ?_
   rintro e w8 ⟨rfl, hb_⟩
   replace HB := Aside0.mk (below_step HB.out hb_)
   clear hb_ B3x c3_0 c3_1 B7x c7_0 c7_1 c7_2 c7_3 c7_4 c7_5 c7_6
   go_wp2_with fail
   go_ret
   exact ⟨by rw [HF.out]; rfl, HB.out⟩
 have t0 : ((x.f1.length : Int) == 0) = false := beq_eq_false_iff_ne.2 (by omega)
 have HF := Aside0.mk (show itemUB U x = x.f1.all (stUB U) from if_neg e0)
 have HE2 := Aside0.mk HX.out.2
 clear e0 HX
 have B7x := Aside0.mk (below_blk B7.out HK.out)
 have c7_0 := (blk_cell B7x.out 0).trans rfl
 have c7_1 := (blk_cell B7x.out 1).trans rfl
 have c7_2 := (blk_cell B7x.out 2).trans rfl
 have c7_3 := (blk_cell B7x.out 3).trans rfl
 have c7_4 := (blk_cell B7x.out 4).trans rfl
 have c7_5 := (blk_cell B7x.out 5).trans rfl
 have c7_6 := (blk_cell B7x.out 6).trans rfl
 go_wp2_with fail
 clear B7x c7_0 c7_1 c7_2 c7_3 c7_4 c7_5 c7_6
 go_loopg [9] x.f1.length (fun gg s_ wr => ∃ (kka : Nat), kka ≤ x.f1.length ∧ x.f1.length - kka ≤ gg ∧ s_ = .int .i64 kka ∧ Aside0 (Below w7.heap.size w7 wr) ∧ Aside0 (∀ j, j < kka → stUB U (x.f1.getD j z65) = true))
 case atStart => exact ⟨0, Nat.zero_le _, by omega, rfl, HK, ⟨upto_none (P := stUB U)⟩⟩
 case round =>
   clear HK
   obtain ⟨kka, hkka, hgkka, rfl, HK, Na⟩ := hrel
   have hmxa : x.f1.length ≤ 9223372036854775807 := (xG6.out).2.1
   by_cases hlta : kka < x.f1.length
   · have hltza : (kka : Int) < (x.f1.length : Int) := by omega
     have hes := HE2.out kka hlta
     have HBr := Aside0.mk (below_step HB.out HK.out)
     obtain ⟨sad, scs, hs_, _, sK, scc⟩ := Kd.C_get xG6.out z65 (kka : Int) (by omega) (by omega)
     subst hs_; have sK' := sK
     obtain ⟨sA1, sc1, sA2, sc2, rfl, sl1, sg1, sl2, sg2⟩ := k65_open sK'
     have sx0 := (HBr.out.cell (World.block_lt_of_cell? w _ (scc 0 _ rfl))).trans (scc 0 _ rfl)
     have sx1 := (HBr.out.cell (World.block_lt_of_cell? w _ (scc 1 _ rfl))).trans (scc 1 _ rfl)
     have sx2 := (HBr.out.cell (World.block_lt_of_cell? w _ (scc 2 _ rfl))).trans (scc 2 _ rfl)
     rw [show (k65).sz = 3 from rfl, Nat.add_zero, Int.toNat_natCast] at sx0
     rw [show (k65).sz = 3 from rfl, Int.toNat_natCast, add_field _ _ 1 (by omega)] at sx1
     rw [show (k65).sz = 3 from rfl, Int.toNat_natCast, add_field _ _ 2 (by omega)] at sx2
     clear scc
     try simp only [Int.toNat_natCast] at sx0 sx1 sx2 sK sl1 sg1 sl2 sg2
     generalize Ys0 : x.f1.getD kka z65 = s at hes sx0 sx1 sx2 sK sl1 sg1 sl2 sg2
     have Ys := Aside0.mk Ys0; clear Ys0
     have sL1 := Aside0.mk sl1; have sG1 := Aside0.mk sg1; clear sl1 sg1
     have sL2 := Aside0.mk sl2; have sG2 := Aside0.mk sg2; clear sl2 sg2
     have HES := Aside0.mk hes; clear hes sK
     have B7x := Aside0.mk (below_blk B7.out HK.out)
     have c7_0 := (blk_cell B7x.out 0).trans rfl
     have c7_1 := (blk_cell B7x.out 1).trans rfl
     have c7_2 := (blk_cell B7x.out 2).trans rfl
     have c7_3 := (blk_cell B7x.out 3).trans rfl
     have c7_4 := (blk_cell B7x.out 4).trans rfl
     have c7_5 := (blk_cell B7x.out 5).trans rfl
     have c7_6 := (blk_cell B7x.out 6).trans rfl
     go_wp2_with ((with_reducible refine gate_store (t := 65) (p := 10) rfl ?_); refine store_whole rfl rfl 65 _ _ rfl wr.heap.size _ 65 rfl (blk_new _ _) _ rfl rfl rfl (by simp [Value.oneCell']) ?_; intro w2 hb2 hg2; have HK9 := Aside0.mk (below_as HK.out hg2); have B39 := Aside0.mk (blk_as (below_blk B3.out HK.out) hg2); obtain ⟨g10, hq_⟩ : ∃ g_, g_ = wr.heap.size := ⟨_, rfl⟩; rw [← hq_] at hb2; rw [← hq_]; have B10 := Aside0.mk hb2; have c10_0 := (blk_cell hb2 0).trans rfl; have c10_1 := (blk_cell hb2 1).trans rfl; have c10_2 := (blk_cell hb2 2).trans rfl; clear hb2 hg2 hq_ HK HBr sx0 sx1 sx2 B7x c7_0 c7_1 c7_2 c7_3 c7_4 c7_5 c7_6)
     clear c10_0 c10_1 c10_2
     generalize w2 = w9 at HK9 B39 B10 ⊢
     have HB9 := Aside0.mk (below_step HB.out HK9.out)
     have HJ := Aside0.mk (Below.refl w9.heap.size w9)
     go_loopg [11] s.f1.length (fun gg s_ wr => ∃ (kkb : Nat), kkb ≤ s.f1.length ∧ s.f1.length - kkb ≤ gg ∧ s_ = .int .i64 kkb ∧ Aside0 (Below w9.heap.size w9 wr) ∧ Aside0 (∀ j, j < kkb → U (s.f1.getD j z44).f1 true 1 = true))
     case atStart => exact ⟨0, Nat.zero_le _, by omega, rfl, HJ, ⟨upto_none (P := fun q : S44 => U q.f1 true 1)⟩⟩
     case round =>
       clear HJ
       obtain ⟨kkb, hkkb, hgkkb, rfl, HJ, Nb⟩ := hrel
       have hmxb : s.f1.length ≤ 9223372036854775807 := (sG1.out).2.1
       by_cases hltb : kkb < s.f1.length
       · have hltzb : (kkb : Int) < (s.f1.length : Int) := by omega
         have hex := HES.out.1 kkb hltb
         have HBr := Aside0.mk (below_step HB9.out HJ.out)
         obtain ⟨qad, qcs, hy_, _, qK, qcc⟩ := Kd.C_get sG1.out z44 (kkb : Int) (by omega) (by omega)
         subst hy_; have qK' := qK
         obtain ⟨qA0, qc0, qA4, qc4, qA5, qc5, rfl, ql0, qg0, ql4, qg4, ql5, qg5⟩ := k44_open qK'
         have qx0 := (HBr.out.cell (World.block_lt_of_cell? w _ (qcc 0 _ rfl))).trans (qcc 0 _ rfl)
         have qx1 := (HBr.out.cell (World.block_lt_of_cell? w _ (qcc 1 _ rfl))).trans (qcc 1 _ rfl)
         have qx2 := (HBr.out.cell (World.block_lt_of_cell? w _ (qcc 2 _ rfl))).trans (qcc 2 _ rfl)
         have qx3 := (HBr.out.cell (World.block_lt_of_cell? w _ (qcc 3 _ rfl))).trans (qcc 3 _ rfl)
         have qx4 := (HBr.out.cell (World.block_lt_of_cell? w _ (qcc 4 _ rfl))).trans (qcc 4 _ rfl)
         have qx5 := (HBr.out.cell (World.block_lt_of_cell? w _ (qcc 5 _ rfl))).trans (qcc 5 _ rfl)
         rw [show (k44).sz = 6 from rfl, Nat.add_zero, Int.toNat_natCast] at qx0
         rw [show (k44).sz = 6 from rfl, Int.toNat_natCast, add_field _ _ 1 (by omega)] at qx1
         rw [show (k44).sz = 6 from rfl, Int.toNat_natCast, add_field _ _ 2 (by omega)] at qx2
         rw [show (k44).sz = 6 from rfl, Int.toNat_natCast, add_field _ _ 3 (by omega)] at qx3
         rw [show (k44).sz = 6 from rfl, Int.toNat_natCast, add_field _ _ 4 (by omega)] at qx4
         rw [show (k44).sz = 6 from rfl, Int.toNat_natCast, add_field _ _ 5 (by omega)] at qx5
         clear qcc
         try simp only [Int.toNat_natCast] at qx0 qx1 qx2 qx3 qx4 qx5 qK ql0 qg0 ql4 qg4 ql5 qg5
         generalize Yq0 : s.f1.getD kkb z44 = q at hex qx0 qx1 qx2 qx3 qx4 qx5 qK ql0 qg0 ql4 qg4 ql5 qg5
         have Yq := Aside0.mk Yq0; clear Yq0
         have qL0 := Aside0.mk ql0; have qG0 := Aside0.mk qg0; clear ql0 qg0
         have qL4 := Aside0.mk ql4; have qG4 := Aside0.mk qg4; clear ql4 qg4
         have qL5 := Aside0.mk ql5; have qG5 := Aside0.mk qg5; clear ql5 qg5
         have HEX := Aside0.mk hex; clear hex qK
         have B10x := Aside0.mk (below_blk B10.out HJ.out); have B3x := Aside0.mk (below_blk B39.out HJ.out)
         have c10_0 := (blk_cell B10x.out 0).trans rfl
         have c10_1 := (blk_cell B10x.out 1).trans rfl
         have c10_2 := (blk_cell B10x.out 2).trans rfl
         have c3_0 := (blk_cell B3x.out 0).trans rfl
         have c3_1 := (blk_cell B3x.out 1).trans rfl
         go_wp2_with fail
         go_still_tail 8, (by kernel_rfl)
         change wpList _ _ _ _ _ (World.drew wr)
         have HJ_ := Aside0.mk (below_drew1 HJ.out); clear HJ
         clear HBr B10x B3x c10_0 c10_1 c10_2 c3_0 c3_1 qx0 qx1 qx2 qx3 qx4 qx5
         generalize World.drew wr = w11 at HJ_ ⊢
         have HJ := HJ_; clear HJ_
         have HBr := Aside0.mk (below_step HB9.out HJ.out)
         go_wp2_with fail
         refine (hus (q.f1) _ _ true 1 (k42_mk w q.f1 qL4.out qG4.out qL5.out qG5.out) HBr.out HEX.out).mono ?_
         rintro e w12 ⟨rfl, hb_⟩
         replace HJ := Aside0.mk (below_step HJ.out hb_)
         clear hb_ HBr
         cases hub : U (q.f1) true 1 with
         | false =>
           go_wp2_with fail
           go_ret
           exact ⟨(itemUB_no hlta Ys.out (stUB_no1 hltb Yq.out hub)).symm ▸ rfl, below_step HB9.out HJ.out⟩
         | true =>
           have HUB := Aside0.mk hub; clear hub
           go_wp2_with fail
           go_roundg (s.f1.length - (kkb + 1))
           case measure => omega
           case rel => exact ⟨kkb + 1, by omega, by omega, by go_num, HJ, ⟨upto_step (P := fun q => U q.f1 true 1) Nb.out Yq.out HUB.out⟩⟩
       · have hltzb : ¬ (kkb : Int) < (s.f1.length : Int) := by omega
         obtain rfl : kkb = s.f1.length := by omega
         have B10x := Aside0.mk (below_blk B10.out HJ.out)
         have c10_0 := (blk_cell B10x.out 0).trans rfl
         have c10_1 := (blk_cell B10x.out 1).trans rfl
         have c10_2 := (blk_cell B10x.out 2).trans rfl
         go_wp2_with fail
         clear B10x c10_0 c10_1 c10_2
         go_loopg [12] s.f2.length (fun gg s_ wr => ∃ (kkc : Nat), kkc ≤ s.f2.length ∧ s.f2.length - kkc ≤ gg ∧ s_ = .int .i64 kkc ∧ Aside0 (Below w9.heap.size w9 wr) ∧ Aside0 (∀ j, j < kkc → U (s.f2.getD j z93).f0 true 1 = true))
         case atStart => exact ⟨0, Nat.zero_le _, by omega, rfl, HJ, ⟨upto_none (P := fun q : S93 => U q.f0 true 1)⟩⟩
         case round =>
           clear HJ
           obtain ⟨kkc, hkkc, hgkkc, rfl, HJ, Nc⟩ := hrel
           have hmxc : s.f2.length ≤ 9223372036854775807 := (sG2.out).2.1
           by_cases hltc : kkc < s.f2.length
           · have hltzc : (kkc : Int) < (s.f2.length : Int) := by omega
             have hex := HES.out.2 kkc hltc
             have HBr := Aside0.mk (below_step HB9.out HJ.out)
             obtain ⟨yad, ycs, hy_, _, yK, ycc⟩ := Kd.C_get sG2.out z93 (kkc : Int) (by omega) (by omega)
             subst hy_; have yK' := yK
             obtain ⟨yA3, yc3, yA4, yc4, rfl, yl3, yg3, yl4, yg4⟩ := k93_open yK'
             have yx0 := (HBr.out.cell (World.block_lt_of_cell? w _ (ycc 0 _ rfl))).trans (ycc 0 _ rfl)
             have yx1 := (HBr.out.cell (World.block_lt_of_cell? w _ (ycc 1 _ rfl))).trans (ycc 1 _ rfl)
             have yx2 := (HBr.out.cell (World.block_lt_of_cell? w _ (ycc 2 _ rfl))).trans (ycc 2 _ rfl)
             have yx3 := (HBr.out.cell (World.block_lt_of_cell? w _ (ycc 3 _ rfl))).trans (ycc 3 _ rfl)
             have yx4 := (HBr.out.cell (World.block_lt_of_cell? w _ (ycc 4 _ rfl))).trans (ycc 4 _ rfl)
             have yx5 := (HBr.out.cell (World.block_lt_of_cell? w _ (ycc 5 _ rfl))).trans (ycc 5 _ rfl)
             rw [show (k93).sz = 6 from rfl, Nat.add_zero, Int.toNat_natCast] at yx0
             rw [show (k93).sz = 6 from rfl, Int.toNat_natCast, add_field _ _ 1 (by omega)] at yx1
             rw [show (k93).sz = 6 from rfl, Int.toNat_natCast, add_field _ _ 2 (by omega)] at yx2
             rw [show (k93).sz = 6 from rfl, Int.toNat_natCast, add_field _ _ 3 (by omega)] at yx3
             rw [show (k93).sz = 6 from rfl, Int.toNat_natCast, add_field _ _ 4 (by omega)] at yx4
             rw [show (k93).sz = 6 from rfl, Int.toNat_natCast, add_field _ _ 5 (by omega)] at yx5
             clear ycc
             try simp only [Int.toNat_natCast] at yx0 yx1 yx2 yx3 yx4 yx5 yK yl3 yg3 yl4 yg4
             generalize Yy0 : s.f2.getD kkc z93 = y at hex yx0 yx1 yx2 yx3 yx4 yx5 yK yl3 yg3 yl4 yg4
             have Yy := Aside0.mk Yy0; clear Yy0
             have yL3 := Aside0.mk yl3; have yG3 := Aside0.mk yg3; clear yl3 yg3
             have yL4 := Aside0.mk yl4; have yG4 := Aside0.mk yg4; clear yl4 yg4
             have HEX := Aside0.mk hex; clear hex yK
             have B10x := Aside0.mk (below_blk B10.out HJ.out); have B3x := Aside0.mk (below_blk B39.out HJ.out)
             have c10_0 := (blk_cell B10x.out 0).trans rfl
             have c10_1 := (blk_cell B10x.out 1).trans rfl
             have c10_2 := (blk_cell B10x.out 2).trans rfl
             have c3_0 := (blk_cell B3x.out 0).trans rfl
             have c3_1 := (blk_cell B3x.out 1).trans rfl
             go_wp2_with fail
             go_still_tail 8, (by kernel_rfl)
             change wpList _ _ _ _ _ (World.drew wr)
             have HJ_ := Aside0.mk (below_drew1 HJ.out); clear HJ
             clear HBr B10x B3x c10_0 c10_1 c10_2 c3_0 c3_1 yx0 yx1 yx2 yx3 yx4 yx5
             generalize World.drew wr = w11 at HJ_ ⊢
             have HJ := HJ_; clear HJ_
             have HBr := Aside0.mk (below_step HB9.out HJ.out)
             go_wp2_with fail
             refine (hus (y.f0) _ _ true 1 (k42_mk w y.f0 yL3.out yG3.out yL4.out yG4.out) HBr.out HEX.out).mono ?_
             rintro e w12 ⟨rfl, hb_⟩
             replace HJ := Aside0.mk (below_step HJ.out hb_)
             clear hb_ HBr
             cases hub : U (y.f0) true 1 with
             | false =>
               go_wp2_with fail
               go_ret
               exact ⟨(itemUB_no hlta Ys.out (stUB_no2 hltc Yy.out hub)).symm ▸ rfl, below_step HB9.out HJ.out⟩
             | true =>
               have HUB := Aside0.mk hub; clear hub
               go_wp2_with fail
               go_roundg (s.f2.length - (kkc + 1))
               case measure => omega
               case rel => exact ⟨kkc + 1, by omega, by omega, by go_num, HJ, ⟨upto_step (P := fun q => U q.f0 true 1) Nc.out Yy.out HUB.out⟩⟩
           · have hltzc : ¬ (kkc : Int) < (s.f2.length : Int) := by omega
             obtain rfl : kkc = s.f2.length := by omega
             have HUA := Aside0.mk (stUB_yes Nb.out Nc.out)
             clear Nb Nc
             have B10x := Aside0.mk (below_blk B10.out HJ.out)
             have c10_0 := (blk_cell B10x.out 0).trans rfl
             have c10_1 := (blk_cell B10x.out 1).trans rfl
             have c10_2 := (blk_cell B10x.out 2).trans rfl
             go_wp2_with fail
             have HK := Aside0.mk (below_step HK9.out HJ.out)
             go_roundg (x.f1.length - (kka + 1))
             case measure => omega
             case rel => exact ⟨kka + 1, by omega, by omega, by go_num, HK, ⟨upto_step (P := stUB U) Na.out Ys.out HUA.out⟩⟩
   · have hltza : ¬ (kka : Int) < (x.f1.length : Int) := by omega
     obtain rfl : kka = x.f1.length := by omega
     have HALL := Aside0.mk (all_getD x.f1 (stUB U) z65 Na.out)
     have B7x := Aside0.mk (below_blk B7.out HK.out)
     have c7_0 := (blk_cell B7x.out 0).trans rfl
     have c7_1 := (blk_cell B7x.out 1).trans rfl
     have c7_2 := (blk_cell B7x.out 2).trans rfl
     have c7_3 := (blk_cell B7x.out 3).trans rfl
     have c7_4 := (blk_cell B7x.out 4).trans rfl
     have c7_5 := (blk_cell B7x.out 5).trans rfl
     have c7_6 := (blk_cell B7x.out 6).trans rfl
     go_wp2_with fail
     go_ret
     exact ⟨by rw [HF.out, HALL.out]; rfl, below_step HB.out HK.out⟩
end Go.Proofs.YtggfnbnochmkdaaGreat
