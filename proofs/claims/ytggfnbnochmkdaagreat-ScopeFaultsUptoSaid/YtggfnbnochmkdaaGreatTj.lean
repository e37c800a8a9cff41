/- Package tree: all expressions of a node, added up; Right. -/
import Derived.Test.YtggfnbnochmkdaaGreatTh
namespace Go.Proofs.YtggfnbnochmkdaaGreat
open Go Go.RowKit Go.Lib Go.Proofs.YtggfnbnochmkdaaGreatW.PrintWords Go.Proofs.YtggfnbnochmkdaaGreat.PScope
set_option maxRecDepth 100000
set_option linter.unusedSimpArgs false
set_option linter.unusedVariables false
def stEx (s : S65) : List S42 := s.f1.map (fun q => q.f1) ++ s.f2.map (fun w => w.f0)
def itEx (x : S47) : List S42 := (if x.f1.length = 0 then [x.f0.f1] else []) ++ x.f1.flatMap stEx
def ndEx (n : S35) : List S42 := n.f4.flatMap itEx
theorem drop_getD {α : Type} (l : List α) (z : α) (k : Nat) (h : k < l.length) : l.drop k = l.getD k z :: l.drop (k + 1) := by
 rw [List.drop_eq_getElem_cons h, List.getD_eq_getElem?_getD, List.getElem?_eq_getElem h]; rfl
theorem cellI_as {W w2 : World} {g : Nat} {v : Int} {o' : Obj} (h : CellI W g v) (hg : (W.alloc o').grownBy w2 (some W.heap.size)) : CellI w2 g v := blk_as h hg
set_option maxHeartbeats 16000000 in
theorem each_calls (n : S35) (w0 w : World) (csx : List Value) (hK : k35.K w0 n csx) (hw : Below w0.heap.size w0 w) (ga gb : Nat) (a b : Int) (hne : ga ≠ gb) (hga : w0.heap.size ≤ ga) (hgb : w0.heap.size ≤ gb) (ha : CellI w ga a) (hb : CellI w gb b) :
   Calls Tryz.prog 25 #[.agg csx.toArray, .func (.func 26) #[] #[.pointer (some ⟨ga, 0, none⟩), .pointer (some ⟨gb, 0, none⟩)]] w fun e w' => e = .returned (.tuple #[]) ∧ CellI w' ga ((ndEx n).foldl acc (a, b)).1 ∧ CellI w' gb ((ndEx n).foldl acc (a, b)).2 ∧ Turned (two ga gb) w w' := by
 obtain ⟨A1, c1, A2, c2, A3, c3, A4, c4, rfl, l1, g1, l2, g2, l3, g3, l4, g4⟩ := k35_open hK
 have L1 := Aside0.mk l1; have G1 := Aside0.mk g1; clear l1 g1
 have L2 := Aside0.mk l2; have G2 := Aside0.mk g2; clear l2 g2
 have L3 := Aside0.mk l3; have G3 := Aside0.mk g3; clear l3 g3
 have L4 := Aside0.mk l4; have G4 := Aside0.mk g4; clear l4 g4
 clear hK
 have HT := Aside0.mk (Turned.refl (two ga gb) w)
 have HB := Aside0.mk hw
 have HA := Aside0.mk ha; have HBB := Aside0.mk hb
 have hga1 : ga < w.heap.size := blk_lt ha
 have hgb1 : gb < w.heap.size := blk_lt hb
 clear ha hb hw
 have FI := Aside0.mk (show (n.f4.flatMap itEx).foldl acc (a, b) = (ndEx n).foldl acc (a, b) from rfl)
 generalize (ndEx n).foldl acc (a, b) = FIN at FI ⊢
 have eg30 : ∀ args W, (callFunc 26 args).run Tryz.prog W = .ok (.enter 26 args) W := enters_of Tryz.func26 (by kernel_rfl) rfl
 have hu0 := Tryz.underlying42
 have hu1 := Tryz.underlying44
 have hu2 := Tryz.underlying93
 have hu3 := Tryz.underlying65
 have hu4 := Tryz.underlying47
 have hu5 := Tryz.underlying35
 go_enter Tryz.func25, Tryz.ntmps25
 go_wp2_with ((with_reducible refine gate_dst (N := 2) rfl ?_); refine box_event ?hg (N := 2) ?hd (cs := #[.string n.f0, .slice A1 (n.f1).length c1, .slice A2 (n.f2).length c2, .slice A3 (n.f3).length c3, .slice A4 (n.f4).length c4]) (t := 35) ?hr ?_; (case hd => rfl); (case hg => rfl); (case hr => first | (go_simp; done) | (go_simp; rfl)); intro g2 hg_ w_ hbox hb; have Bg2 := Aside0.mk hbox; have LBg2 := Aside0.mk ((by rw [hg_]; exact below_size HB.out) : w0.heap.size ≤ g2); replace HA := Aside0.mk (show CellI _ ga a from below_blk HA.out hb); replace HBB := Aside0.mk (show CellI _ gb b from below_blk HBB.out hb); replace HT := Aside0.mk (HT.out.step hb); replace HB := Aside0.mk (below_step HB.out hb); have NBg2 : ¬ two ga gb g2 := (by rintro (e | e) <;> omega); clear hb hbox hg_; have cg2_0 := (blk_cell Bg2.out 0).trans rfl; have cg2_1 := (blk_cell Bg2.out 1).trans rfl; have cg2_2 := (blk_cell Bg2.out 2).trans rfl; have cg2_3 := (blk_cell Bg2.out 3).trans rfl; have cg2_4 := (blk_cell Bg2.out 4).trans rfl)
 clear cg2_0 cg2_1 cg2_2 cg2_3 cg2_4
 have NEW := Aside0.mk (show ga < w.heap.size ∧ gb < w.heap.size from ⟨hga1, hgb1⟩)
 go_loopg [15] n.f4.length (fun gg s_ wr => ∃ (kka : Nat) (p : Int × Int), kka ≤ n.f4.length ∧ n.f4.length - kka ≤ gg ∧ s_ = .int .i64 kka ∧ Aside0 (Below w0.heap.size w0 wr) ∧ Aside0 (Turned (two ga gb) w wr) ∧ Aside0 (CellI wr ga p.1) ∧ Aside0 (CellI wr gb p.2) ∧ Aside0 (wr.heap[g2]? = some (.cells #[.string n.f0, .slice A1 (n.f1).length c1, .slice A2 (n.f2).length c2, .slice A3 (n.f3).length c3, .slice A4 (n.f4).length c4] 35 (0, 0))) ∧ Aside0 ((((n.f4.drop kka).flatMap itEx)).foldl acc p = FIN))
 case atStart => exact ⟨0, _, Nat.zero_le _, by omega, rfl, HB, HT, HA, HBB, Bg2, ⟨by rw [List.drop_zero]; exact FI.out⟩⟩
 case round =>
   clear HB HT HA HBB FI Bg2
   obtain ⟨kka, p, hkka, hgka, rfl, HB, HT, HA, HBB, Bg2, FI⟩ := hrel
   have hmxa : n.f4.length ≤ 9223372036854775807 := (G4.out).2.1
   by_cases hlta : kka < n.f4.length
   · have hltza : (kka : Int) < (n.f4.length : Int) := by omega
     obtain ⟨yad, ycs, rfl, _, yK, ycc⟩ := Kd.C_get G4.out z47 (kka : Int) (by omega) (by omega)
     have yK' := yK
     obtain ⟨yA0, yc0, yA4, yc4, yA5, yc5, yA6, yc6, rfl, yl0, yg0, yl4, yg4, yl5, yg5, yl6, yg6⟩ := k47_open yK'
     have yx0 := (HB.out.cell (World.block_lt_of_cell? w0 _ (ycc 0 _ rfl))).trans (ycc 0 _ rfl)
     have yx1 := (HB.out.cell (World.block_lt_of_cell? w0 _ (ycc 1 _ rfl))).trans (ycc 1 _ rfl)
     have yx2 := (HB.out.cell (World.block_lt_of_cell? w0 _ (ycc 2 _ rfl))).trans (ycc 2 _ rfl)
     have yx3 := (HB.out.cell (World.block_lt_of_cell? w0 _ (ycc 3 _ rfl))).trans (ycc 3 _ rfl)
     have yx4 := (HB.out.cell (World.block_lt_of_cell? w0 _ (ycc 4 _ rfl))).trans (ycc 4 _ rfl)
     have yx5 := (HB.out.cell (World.block_lt_of_cell? w0 _ (ycc 5 _ rfl))).trans (ycc 5 _ rfl)
     have yx6 := (HB.out.cell (World.block_lt_of_cell? w0 _ (ycc 6 _ rfl))).trans (ycc 6 _ rfl)
     rw [show (k47).sz = 7 from rfl, Nat.add_zero, Int.toNat_natCast] at yx0
     rw [show (k47).sz = 7 from rfl, Int.toNat_natCast, add_field _ _ 1 (by omega)] at yx1
     rw [show (k47).sz = 7 from rfl, Int.toNat_natCast, add_field _ _ 2 (by omega)] at yx2
     rw [show (k47).sz = 7 from rfl, Int.toNat_natCast, add_field _ _ 3 (by omega)] at yx3
     rw [show (k47).sz = 7 from rfl, Int.toNat_natCast, add_field _ _ 4 (by omega)] at yx4
     rw [show (k47).sz = 7 from rfl, Int.toNat_natCast, add_field _ _ 5 (by omega)] at yx5
     rw [show (k47).sz = 7 from rfl, Int.toNat_natCast, add_field _ _ 6 (by omega)] at yx6
     clear ycc
     try simp only [Int.toNat_natCast] at yx0 yx1 yx2 yx3 yx4 yx5 yx6 yK yl0 yg0 yl4 yg4 yl5 yg5 yl6 yg6
     generalize Yy0 : n.f4.getD kka z47 = y at yx0 yx1 yx2 yx3 yx4 yx5 yx6 yK yl0 yg0 yl4 yg4 yl5 yg5 yl6 yg6
     have Yy := Aside0.mk Yy0; clear Yy0
     have yL0 := Aside0.mk yl0; have yG0 := Aside0.mk yg0; clear yl0 yg0
     have yL4 := Aside0.mk yl4; have yG4 := Aside0.mk yg4; clear yl4 yg4
     have yL5 := Aside0.mk yl5; have yG5 := Aside0.mk yg5; clear yl5 yg5
     have yL6 := Aside0.mk yl6; have yG6 := Aside0.mk yg6; clear yl6 yg6
     have DRa := drop_getD n.f4 z47 kka hlta
     rw [Yy.out] at DRa
     have FI1 := FI.out
     rw [DRa] at FI1
     have FI2 := Aside0.mk FI1
     clear FI FI1 DRa
     by_cases e0 : y.f1.length = 0
     · have t0 : ((y.f1.length : Int) == 0) = true := by rw [e0]; rfl
       have h_ := FI2.out
       rw [List.flatMap_cons, itEx, if_pos e0, List.length_eq_zero_iff.1 e0, List.flatMap_nil, List.append_nil, List.cons_append, List.foldl_cons, List.nil_append] at h_
       have FI := Aside0.mk h_
       clear h_
       clear FI2
       have hz := (show ((y.f1.length : Nat) : Int) = 0 by omega)
       have HZ := Aside0.mk hz; clear hz e0
       go_wp2_with ((with_reducible refine gate_store (t := 47) (p := 5) rfl ?_); refine store_whole rfl rfl 47 _ _ rfl wr.heap.size _ 47 rfl (blk_new _ _) _ rfl rfl rfl (by simp [Value.oneCell']) ?_; intro w2 hb2 hg2; have NE_ : ¬ two ga gb wr.heap.size := (by have := HT.out.size; have h_ := NEW.out; rintro (e | e) <;> omega); replace Bg2 := Aside0.mk (blk_as Bg2.out hg2); replace HB := Aside0.mk (below_as HB.out hg2); replace HT := Aside0.mk (turned_as HT.out hg2); replace HA := Aside0.mk (cellI_as HA.out hg2); replace HBB := Aside0.mk (cellI_as HBB.out hg2); obtain ⟨g5, hq_⟩ : ∃ g_, g_ = wr.heap.size := ⟨_, rfl⟩; rw [← hq_] at hb2 NE_; rw [← hq_]; have Bg5 := Aside0.mk hb2; clear hb2 hg2 hq_; have cg5_0 := (blk_cell Bg5.out 0).trans rfl; have cg5_1 := (blk_cell Bg5.out 1).trans rfl; have cg5_2 := (blk_cell Bg5.out 2).trans rfl; have cg5_3 := (blk_cell Bg5.out 3).trans rfl; have cg5_4 := (blk_cell Bg5.out 4).trans rfl; have cg5_5 := (blk_cell Bg5.out 5).trans rfl; have cg5_6 := (blk_cell Bg5.out 6).trans rfl)
       have NBg5 := NE_; clear NE_
       refine (right1_calls y.f0.f1 w0 _ _ (k42_mk w0 y.f0.f1 yL4.out yG4.out yL5.out yG5.out) HB.out ga gb p.1 p.2 hne hga hgb HA.out HBB.out).mono ?_
       rintro e w8 ⟨rfl, ha_, hb_, ht_⟩
       replace Bg2 := Aside0.mk (ht_.blk Bg2.out NBg2)
       replace Bg5 := Aside0.mk (ht_.blk Bg5.out NBg5)
       replace HB := Aside0.mk (ht_.below HB.out (HB.out.size) (fun k hk => by rcases hk with rfl | rfl; exact hga; exact hgb))
       replace HT := Aside0.mk (HT.out.trans ht_)
       replace HA := Aside0.mk ha_
       replace HBB := Aside0.mk hb_
       clear ha_ hb_ ht_
       clear cg5_0 cg5_1 cg5_2 cg5_3 cg5_4 cg5_5 cg5_6
       have cg5_0 := (blk_cell Bg5.out 0).trans rfl
       have cg5_1 := (blk_cell Bg5.out 1).trans rfl
       have cg5_2 := (blk_cell Bg5.out 2).trans rfl
       have cg5_3 := (blk_cell Bg5.out 3).trans rfl
       have cg5_4 := (blk_cell Bg5.out 4).trans rfl
       have cg5_5 := (blk_cell Bg5.out 5).trans rfl
       have cg5_6 := (blk_cell Bg5.out 6).trans rfl
       rw [show y.f1.length = 0 by have := HZ.out; omega] at cg5_6
       go_wp2_with fail
       refine wp_loop_rounds 1 ?_
       rw [rounds_succ]
       go_wp2_with fail
       go_roundg (n.f4.length - (kka + 1))
       case measure => omega
       case rel => exact ⟨kka + 1, _, by omega, by omega, by go_num, HB, HT, HA, HBB, Bg2, FI⟩
     have t0 : ((y.f1.length : Int) == 0) = false := beq_eq_false_iff_ne.2 (by omega)
     have h_ := FI2.out
     rw [List.flatMap_cons, itEx, if_neg e0, List.nil_append] at h_
     have FI := Aside0.mk h_
     clear h_
     clear FI2 e0
     go_wp2_with ((with_reducible refine gate_store (t := 47) (p := 5) rfl ?_); refine store_whole rfl rfl 47 _ _ rfl wr.heap.size _ 47 rfl (blk_new _ _) _ rfl rfl rfl (by simp [Value.oneCell']) ?_; intro w2 hb2 hg2; have NE_ : ¬ two ga gb wr.heap.size := (by have := HT.out.size; have h_ := NEW.out; rintro (e | e) <;> omega); replace Bg2 := Aside0.mk (blk_as Bg2.out hg2); replace HB := Aside0.mk (below_as HB.out hg2); replace HT := Aside0.mk (turned_as HT.out hg2); replace HA := Aside0.mk (cellI_as HA.out hg2); replace HBB := Aside0.mk (cellI_as HBB.out hg2); obtain ⟨g5, hq_⟩ : ∃ g_, g_ = wr.heap.size := ⟨_, rfl⟩; rw [← hq_] at hb2 NE_; rw [← hq_]; have Bg5 := Aside0.mk hb2; clear hb2 hg2 hq_; have cg5_0 := (blk_cell Bg5.out 0).trans rfl; have cg5_1 := (blk_cell Bg5.out 1).trans rfl; have cg5_2 := (blk_cell Bg5.out 2).trans rfl; have cg5_3 := (blk_cell Bg5.out 3).trans rfl; have cg5_4 := (blk_cell Bg5.out 4).trans rfl; have cg5_5 := (blk_cell Bg5.out 5).trans rfl; have cg5_6 := (blk_cell Bg5.out 6).trans rfl)
     have NBg5 := NE_; clear NE_
     clear cg5_0 cg5_1 cg5_2 cg5_3 cg5_4 cg5_5 cg5_6
     go_loopg [31] y.f1.length (fun gg s_ wr => ∃ (kkb : Nat) (p : Int × Int), kkb ≤ y.f1.length ∧ y.f1.length - kkb ≤ gg ∧ s_ = .int .i64 kkb ∧ Aside0 (Below w0.heap.size w0 wr) ∧ Aside0 (Turned (two ga gb) w wr) ∧ Aside0 (CellI wr ga p.1) ∧ Aside0 (CellI wr gb p.2) ∧ Aside0 (wr.heap[g2]? = some (.cells #[.string n.f0, .slice A1 (n.f1).length c1, .slice A2 (n.f2).length c2, .slice A3 (n.f3).length c3, .slice (some yad) (n.f4).length c4] 35 (0, 0))) ∧ Aside0 (wr.heap[g5]? = some (.cells #[.slice yA0 (y.f0.f0).length yc0, .int .i64 y.f0.f1.f0, .string y.f0.f1.f1, .int .i64 y.f0.f1.f2, .slice yA4 (y.f0.f1.f3).length yc4, .slice yA5 (y.f0.f1.f4).length yc5, .slice yA6 (y.f1).length yc6] 47 (0, 0))) ∧ Aside0 ((((y.f1.drop kkb).flatMap stEx) ++ (n.f4.drop (kka + 1)).flatMap itEx).foldl acc p = FIN))
     case atStart => exact ⟨0, _, Nat.zero_le _, by omega, rfl, HB, HT, HA, HBB, Bg2, Bg5, ⟨by rw [List.drop_zero]; exact FI.out⟩⟩
     case round =>
       clear HB HT HA HBB FI Bg2 Bg5
       obtain ⟨kkb, p, hkkb, hgkb, rfl, HB, HT, HA, HBB, Bg2, Bg5, FI⟩ := hrel
       have hmxb : y.f1.length ≤ 9223372036854775807 := (yG6.out).2.1
       by_cases hltb : kkb < y.f1.length
       · have hltzb : (kkb : Int) < (y.f1.length : Int) := by omega
         obtain ⟨sad, scs, rfl, _, sK, scc⟩ := Kd.C_get yG6.out z65 (kkb : Int) (by omega) (by omega)
         have sK' := sK
         obtain ⟨sA1, sc1, sA2, sc2, rfl, sl1, sg1, sl2, sg2⟩ := k65_open sK'
         have sx0 := (HB.out.cell (World.block_lt_of_cell? w0 _ (scc 0 _ rfl))).trans (scc 0 _ rfl)
         have sx1 := (HB.out.cell (World.block_lt_of_cell? w0 _ (scc 1 _ rfl))).trans (scc 1 _ rfl)
         have sx2 := (HB.out.cell (World.block_lt_of_cell? w0 _ (scc 2 _ rfl))).trans (scc 2 _ rfl)
         rw [show (k65).sz = 3 from rfl, Nat.add_zero, Int.toNat_natCast] at sx0
         rw [show (k65).sz = 3 from rfl, Int.toNat_natCast, add_field _ _ 1 (by omega)] at sx1
         rw [show (k65).sz = 3 from rfl, Int.toNat_natCast, add_field _ _ 2 (by omega)] at sx2
         clear scc
         try simp only [Int.toNat_natCast] at sx0 sx1 sx2 sK sl1 sg1 sl2 sg2
         generalize Ys0 : y.f1.getD kkb z65 = s at sx0 sx1 sx2 sK sl1 sg1 sl2 sg2
         have Ys := Aside0.mk Ys0; clear Ys0
         have sL1 := Aside0.mk sl1; have sG1 := Aside0.mk sg1; clear sl1 sg1
         have sL2 := Aside0.mk sl2; have sG2 := Aside0.mk sg2; clear sl2 sg2
         have DRb := drop_getD y.f1 z65 kkb hltb
         rw [Ys.out] at DRb
         have FI1 := FI.out
         rw [DRb] at FI1
         have FI2 := Aside0.mk FI1
         clear FI FI1 DRb
         go_wp2_with ((with_reducible refine gate_store (t := 65) (p := 7) rfl ?_); refine store_whole rfl rfl 65 _ _ rfl wr.heap.size _ 65 rfl (blk_new _ _) _ rfl rfl rfl (by simp [Value.oneCell']) ?_; intro w2 hb2 hg2; have NE_ : ¬ two ga gb wr.heap.size := (by have := HT.out.size; have h_ := NEW.out; rintro (e | e) <;> omega); replace Bg2 := Aside0.mk (blk_as Bg2.out hg2); replace Bg5 := Aside0.mk (blk_as Bg5.out hg2); replace HB := Aside0.mk (below_as HB.out hg2); replace HT := Aside0.mk (turned_as HT.out hg2); replace HA := Aside0.mk (cellI_as HA.out hg2); replace HBB := Aside0.mk (cellI_as HBB.out hg2); obtain ⟨g7, hq_⟩ : ∃ g_, g_ = wr.heap.size := ⟨_, rfl⟩; rw [← hq_] at hb2 NE_; rw [← hq_]; have Bg7 := Aside0.mk hb2; clear hb2 hg2 hq_; have cg7_0 := (blk_cell Bg7.out 0).trans rfl; have cg7_1 := (blk_cell Bg7.out 1).trans rfl; have cg7_2 := (blk_cell Bg7.out 2).trans rfl)
         have NBg7 := NE_; clear NE_
         have h_ := FI2.out
         rw [List.flatMap_cons, stEx, List.append_assoc, List.append_assoc] at h_
         have FI := Aside0.mk h_
         clear h_
         clear FI2
         clear cg7_0 cg7_1 cg7_2
         go_loopg [38] s.f1.length (fun gg s_ wr => ∃ (kkc : Nat) (p : Int × Int), kkc ≤ s.f1.length ∧ s.f1.length - kkc ≤ gg ∧ s_ = .int .i64 kkc ∧ Aside0 (Below w0.heap.size w0 wr) ∧ Aside0 (Turned (two ga gb) w wr) ∧ Aside0 (CellI wr ga p.1) ∧ Aside0 (CellI wr gb p.2) ∧ Aside0 (wr.heap[g2]? = some (.cells #[.string n.f0, .slice A1 (n.f1).length c1, .slice A2 (n.f2).length c2, .slice A3 (n.f3).length c3, .slice (some yad) (n.f4).length c4] 35 (0, 0))) ∧ Aside0 (wr.heap[g5]? = some (.cells #[.slice yA0 (y.f0.f0).length yc0, .int .i64 y.f0.f1.f0, .string y.f0.f1.f1, .int .i64 y.f0.f1.f2, .slice yA4 (y.f0.f1.f3).length yc4, .slice yA5 (y.f0.f1.f4).length yc5, .slice (some sad) (y.f1).length yc6] 47 (0, 0))) ∧ Aside0 (wr.heap[g7]? = some (.cells #[.string s.f0, .slice sA1 (s.f1).length sc1, .slice sA2 (s.f2).length sc2] 65 (0, 0))) ∧ Aside0 ((((s.f1.drop kkc).map (fun q => q.f1)) ++ (s.f2.map (fun w => w.f0) ++ ((y.f1.drop (kkb + 1)).flatMap stEx ++ (n.f4.drop (kka + 1)).flatMap itEx))).foldl acc p = FIN))
         case atStart => exact ⟨0, _, Nat.zero_le _, by omega, rfl, HB, HT, HA, HBB, Bg2, Bg5, Bg7, ⟨by rw [List.drop_zero]; exact FI.out⟩⟩
         case round =>
           clear HB HT HA HBB FI Bg2 Bg5 Bg7
           obtain ⟨kkc, p, hkkc, hgkc, rfl, HB, HT, HA, HBB, Bg2, Bg5, Bg7, FI⟩ := hrel
           have hmxc : s.f1.length ≤ 9223372036854775807 := (sG1.out).2.1
           by_cases hltc : kkc < s.f1.length
           · have hltzc : (kkc : Int) < (s.f1.length : Int) := by omega
             obtain ⟨qad, qcs, rfl, _, qK, qcc⟩ := Kd.C_get sG1.out z44 (kkc : Int) (by omega) (by omega)
             have qK' := qK
             obtain ⟨qA0, qc0, qA4, qc4, qA5, qc5, rfl, ql0, qg0, ql4, qg4, ql5, qg5⟩ := k44_open qK'
             have qx0 := (HB.out.cell (World.block_lt_of_cell? w0 _ (qcc 0 _ rfl))).trans (qcc 0 _ rfl)
             have qx1 := (HB.out.cell (World.block_lt_of_cell? w0 _ (qcc 1 _ rfl))).trans (qcc 1 _ rfl)
             have qx2 := (HB.out.cell (World.block_lt_of_cell? w0 _ (qcc 2 _ rfl))).trans (qcc 2 _ rfl)
             have qx3 := (HB.out.cell (World.block_lt_of_cell? w0 _ (qcc 3 _ rfl))).trans (qcc 3 _ rfl)
             have qx4 := (HB.out.cell (World.block_lt_of_cell? w0 _ (qcc 4 _ rfl))).trans (qcc 4 _ rfl)
             have qx5 := (HB.out.cell (World.block_lt_of_cell? w0 _ (qcc 5 _ rfl))).trans (qcc 5 _ rfl)
             rw [show (k44).sz = 6 from rfl, Nat.add_zero, Int.toNat_natCast] at qx0
             rw [show (k44).sz = 6 from rfl, Int.toNat_natCast, add_field _ _ 1 (by omega)] at qx1
             rw [show (k44).sz = 6 from rfl, Int.toNat_natCast, add_field _ _ 2 (by omega)] at qx2
             rw [show (k44).sz = 6 from rfl, Int.toNat_natCast, add_field _ _ 3 (by omega)] at qx3
             rw [show (k44).sz = 6 from rfl, Int.toNat_natCast, add_field _ _ 4 (by omega)] at qx4
             rw [show (k44).sz = 6 from rfl, Int.toNat_natCast, add_field _ _ 5 (by omega)] at qx5
             clear qcc
             try simp only [Int.toNat_natCast] at qx0 qx1 qx2 qx3 qx4 qx5 qK ql0 qg0 ql4 qg4 ql5 qg5
             generalize Yq0 : s.f1.getD kkc z44 = q at qx0 qx1 qx2 qx3 qx4 qx5 qK ql0 qg0 ql4 qg4 ql5 qg5
             have Yq := Aside0.mk Yq0; clear Yq0
             have qL0 := Aside0.mk ql0; have qG0 := Aside0.mk qg0; clear ql0 qg0
             have qL4 := Aside0.mk ql4; have qG4 := Aside0.mk qg4; clear ql4 qg4
             have qL5 := Aside0.mk ql5; have qG5 := Aside0.mk qg5; clear ql5 qg5
             have DRc := drop_getD s.f1 z44 kkc hltc
             rw [Yq.out] at DRc
             have FI1 := FI.out
             rw [DRc] at FI1
             have FI2 := Aside0.mk FI1
             clear FI FI1 DRc
             go_wp2_with ((with_reducible refine gate_store (t := 44) (p := 9) rfl ?_); refine store_whole rfl rfl 44 _ _ rfl wr.heap.size _ 44 rfl (blk_new _ _) _ rfl rfl rfl (by simp [Value.oneCell']) ?_; intro w2 hb2 hg2; have NE_ : ¬ two ga gb wr.heap.size := (by have := HT.out.size; have h_ := NEW.out; rintro (e | e) <;> omega); replace Bg2 := Aside0.mk (blk_as Bg2.out hg2); replace Bg5 := Aside0.mk (blk_as Bg5.out hg2); replace Bg7 := Aside0.mk (blk_as Bg7.out hg2); replace HB := Aside0.mk (below_as HB.out hg2); replace HT := Aside0.mk (turned_as HT.out hg2); replace HA := Aside0.mk (cellI_as HA.out hg2); replace HBB := Aside0.mk (cellI_as HBB.out hg2); obtain ⟨g9, hq_⟩ : ∃ g_, g_ = wr.heap.size := ⟨_, rfl⟩; rw [← hq_] at hb2 NE_; rw [← hq_]; have Bg9 := Aside0.mk hb2; clear hb2 hg2 hq_; have cg9_0 := (blk_cell Bg9.out 0).trans rfl; have cg9_1 := (blk_cell Bg9.out 1).trans rfl; have cg9_2 := (blk_cell Bg9.out 2).trans rfl; have cg9_3 := (blk_cell Bg9.out 3).trans rfl; have cg9_4 := (blk_cell Bg9.out 4).trans rfl; have cg9_5 := (blk_cell Bg9.out 5).trans rfl)
             have NBg9 := NE_; clear NE_
             have h_ := FI2.out
             rw [List.map_cons, List.cons_append, List.foldl_cons] at h_
             have FI := Aside0.mk h_
             clear h_
             clear FI2
             refine (right1_calls q.f1 w0 _ _ (k42_mk w0 q.f1 qL4.out qG4.out qL5.out qG5.out) HB.out ga gb p.1 p.2 hne hga hgb HA.out HBB.out).mono ?_
             rintro e w8 ⟨rfl, ha_, hb_, ht_⟩
             replace Bg2 := Aside0.mk (ht_.blk Bg2.out NBg2)
             replace Bg5 := Aside0.mk (ht_.blk Bg5.out NBg5)
             replace Bg7 := Aside0.mk (ht_.blk Bg7.out NBg7)
             replace HB := Aside0.mk (ht_.below HB.out (HB.out.size) (fun k hk => by rcases hk with rfl | rfl; exact hga; exact hgb))
             replace HT := Aside0.mk (HT.out.trans ht_)
             replace HA := Aside0.mk ha_
             replace HBB := Aside0.mk hb_
             clear ha_ hb_ ht_
             go_wp2_with fail
             go_roundg (s.f1.length - (kkc + 1))
             case measure => omega
             case rel => exact ⟨kkc + 1, _, by omega, by omega, by go_num, HB, HT, HA, HBB, Bg2, Bg5, Bg7, FI⟩
           · have hltzc : ¬ (kkc : Int) < (s.f1.length : Int) := by omega
             obtain rfl : kkc = s.f1.length := by omega
             have FI1 := FI.out
             rw [List.drop_length] at FI1
             have FI2 := Aside0.mk FI1
             clear FI FI1
             have h_ := FI2.out
             rw [List.map_nil, List.nil_append] at h_
             have FI := Aside0.mk h_
             clear h_
             clear FI2
             have cg7_0 := (blk_cell Bg7.out 0).trans rfl
             have cg7_1 := (blk_cell Bg7.out 1).trans rfl
             have cg7_2 := (blk_cell Bg7.out 2).trans rfl
             go_wp2_with fail
             clear cg7_0 cg7_1 cg7_2
             go_loopg [50] s.f2.length (fun gg s_ wr => ∃ (kkd : Nat) (p : Int × Int), kkd ≤ s.f2.length ∧ s.f2.length - kkd ≤ gg ∧ s_ = .int .i64 kkd ∧ Aside0 (Below w0.heap.size w0 wr) ∧ Aside0 (Turned (two ga gb) w wr) ∧ Aside0 (CellI wr ga p.1) ∧ Aside0 (CellI wr gb p.2) ∧ Aside0 (wr.heap[g2]? = some (.cells #[.string n.f0, .slice A1 (n.f1).length c1, .slice A2 (n.f2).length c2, .slice A3 (n.f3).length c3, .slice (some yad) (n.f4).length c4] 35 (0, 0))) ∧ Aside0 (wr.heap[g5]? = some (.cells #[.slice yA0 (y.f0.f0).length yc0, .int .i64 y.f0.f1.f0, .string y.f0.f1.f1, .int .i64 y.f0.f1.f2, .slice yA4 (y.f0.f1.f3).length yc4, .slice yA5 (y.f0.f1.f4).length yc5, .slice (some sad) (y.f1).length yc6] 47 (0, 0))) ∧ Aside0 (wr.heap[g7]? = some (.cells #[.string s.f0, .slice sA1 (s.f1).length sc1, .slice sA2 (s.f2).length sc2] 65 (0, 0))) ∧ Aside0 ((((s.f2.drop kkd).map (fun w => w.f0)) ++ ((y.f1.drop (kkb + 1)).flatMap stEx ++ (n.f4.drop (kka + 1)).flatMap itEx)).foldl acc p = FIN))
             case atStart => exact ⟨0, _, Nat.zero_le _, by omega, rfl, HB, HT, HA, HBB, Bg2, Bg5, Bg7, ⟨by rw [List.drop_zero]; exact FI.out⟩⟩
             case round =>
               clear HB HT HA HBB FI Bg2 Bg5 Bg7
               obtain ⟨kkd, p, hkkd, hgkd, rfl, HB, HT, HA, HBB, Bg2, Bg5, Bg7, FI⟩ := hrel
               have hmxd : s.f2.length ≤ 9223372036854775807 := (sG2.out).2.1
               by_cases hltd : kkd < s.f2.length
               · have hltzd : (kkd : Int) < (s.f2.length : Int) := by omega
                 obtain ⟨vad, vcs, rfl, _, vK, vcc⟩ := Kd.C_get sG2.out z93 (kkd : Int) (by omega) (by omega)
                 have vK' := vK
                 obtain ⟨vA3, vc3, vA4, vc4, rfl, vl3, vg3, vl4, vg4⟩ := k93_open vK'
                 have vx0 := (HB.out.cell (World.block_lt_of_cell? w0 _ (vcc 0 _ rfl))).trans (vcc 0 _ rfl)
                 have vx1 := (HB.out.cell (World.block_lt_of_cell? w0 _ (vcc 1 _ rfl))).trans (vcc 1 _ rfl)
                 have vx2 := (HB.out.cell (World.block_lt_of_cell? w0 _ (vcc 2 _ rfl))).trans (vcc 2 _ rfl)
                 have vx3 := (HB.out.cell (World.block_lt_of_cell? w0 _ (vcc 3 _ rfl))).trans (vcc 3 _ rfl)
                 have vx4 := (HB.out.cell (World.block_lt_of_cell? w0 _ (vcc 4 _ rfl))).trans (vcc 4 _ rfl)
                 have vx5 := (HB.out.cell (World.block_lt_of_cell? w0 _ (vcc 5 _ rfl))).trans (vcc 5 _ rfl)
                 rw [show (k93).sz = 6 from rfl, Nat.add_zero, Int.toNat_natCast] at vx0
                 rw [show (k93).sz = 6 from rfl, Int.toNat_natCast, add_field _ _ 1 (by omega)] at vx1
                 rw [show (k93).sz = 6 from rfl, Int.toNat_natCast, add_field _ _ 2 (by omega)] at vx2
                 rw [show (k93).sz = 6 from rfl, Int.toNat_natCast, add_field _ _ 3 (by omega)] at vx3
                 rw [show (k93).sz = 6 from rfl, Int.toNat_natCast, add_field _ _ 4 (by omega)] at vx4
                 rw [show (k93).sz = 6 from rfl, Int.toNat_natCast, add_field _ _ 5 (by omega)] at vx5
                 clear vcc
                 try simp only [Int.toNat_natCast] at vx0 vx1 vx2 vx3 vx4 vx5 vK vl3 vg3 vl4 vg4
                 generalize Yv0 : s.f2.getD kkd z93 = v at vx0 vx1 vx2 vx3 vx4 vx5 vK vl3 vg3 vl4 vg4
                 have Yv := Aside0.mk Yv0; clear Yv0
                 have vL3 := Aside0.mk vl3; have vG3 := Aside0.mk vg3; clear vl3 vg3
                 have vL4 := Aside0.mk vl4; have vG4 := Aside0.mk vg4; clear vl4 vg4
                 have DRd := drop_getD s.f2 z93 kkd hltd
                 rw [Yv.out] at DRd
                 have FI1 := FI.out
                 rw [DRd] at FI1
                 have FI2 := Aside0.mk FI1
                 clear FI FI1 DRd
                 go_wp2_with ((with_reducible refine gate_store (t := 93) (p := 11) rfl ?_); refine store_whole rfl rfl 93 _ _ rfl wr.heap.size _ 93 rfl (blk_new _ _) _ rfl rfl rfl (by simp [Value.oneCell']) ?_; intro w2 hb2 hg2; have NE_ : ¬ two ga gb wr.heap.size := (by have := HT.out.size; have h_ := NEW.out; rintro (e | e) <;> omega); replace Bg2 := Aside0.mk (blk_as Bg2.out hg2); replace Bg5 := Aside0.mk (blk_as Bg5.out hg2); replace Bg7 := Aside0.mk (blk_as Bg7.out hg2); replace HB := Aside0.mk (below_as HB.out hg2); replace HT := Aside0.mk (turned_as HT.out hg2); replace HA := Aside0.mk (cellI_as HA.out hg2); replace HBB := Aside0.mk (cellI_as HBB.out hg2); obtain ⟨g11, hq_⟩ : ∃ g_, g_ = wr.heap.size := ⟨_, rfl⟩; rw [← hq_] at hb2 NE_; rw [← hq_]; have Bg11 := Aside0.mk hb2; clear hb2 hg2 hq_; have cg11_0 := (blk_cell Bg11.out 0).trans rfl; have cg11_1 := (blk_cell Bg11.out 1).trans rfl; have cg11_2 := (blk_cell Bg11.out 2).trans rfl; have cg11_3 := (blk_cell Bg11.out 3).trans rfl; have cg11_4 := (blk_cell Bg11.out 4).trans rfl; have cg11_5 := (blk_cell Bg11.out 5).trans rfl)
                 have NBg11 := NE_; clear NE_
                 have h_ := FI2.out
                 rw [List.map_cons, List.cons_append, List.foldl_cons] at h_
                 have FI := Aside0.mk h_
                 clear h_
                 clear FI2
                 refine (right1_calls v.f0 w0 _ _ (k42_mk w0 v.f0 vL3.out vG3.out vL4.out vG4.out) HB.out ga gb p.1 p.2 hne hga hgb HA.out HBB.out).mono ?_
                 rintro e w8 ⟨rfl, ha_, hb_, ht_⟩
                 replace Bg2 := Aside0.mk (ht_.blk Bg2.out NBg2)
                 replace Bg5 := Aside0.mk (ht_.blk Bg5.out NBg5)
                 replace Bg7 := Aside0.mk (ht_.blk Bg7.out NBg7)
                 replace HB := Aside0.mk (ht_.below HB.out (HB.out.size) (fun k hk => by rcases hk with rfl | rfl; exact hga; exact hgb))
                 replace HT := Aside0.mk (HT.out.trans ht_)
                 replace HA := Aside0.mk ha_
                 replace HBB := Aside0.mk hb_
                 clear ha_ hb_ ht_
                 go_wp2_with fail
                 go_roundg (s.f2.length - (kkd + 1))
                 case measure => omega
                 case rel => exact ⟨kkd + 1, _, by omega, by omega, by go_num, HB, HT, HA, HBB, Bg2, Bg5, Bg7, FI⟩
               · have hltzd : ¬ (kkd : Int) < (s.f2.length : Int) := by omega
                 obtain rfl : kkd = s.f2.length := by omega
                 have FI1 := FI.out
                 rw [List.drop_length] at FI1
                 have FI2 := Aside0.mk FI1
                 clear FI FI1
                 have h_ := FI2.out
                 rw [List.map_nil, List.nil_append] at h_
                 have FI := Aside0.mk h_
                 clear h_
                 clear FI2
                 go_wp2_with fail
                 go_roundg (y.f1.length - (kkb + 1))
                 case measure => omega
                 case rel => exact ⟨kkb + 1, _, by omega, by omega, by go_num, HB, HT, HA, HBB, Bg2, Bg5, FI⟩
       · have hltzb : ¬ (kkb : Int) < (y.f1.length : Int) := by omega
         obtain rfl : kkb = y.f1.length := by omega
         have FI1 := FI.out
         rw [List.drop_length] at FI1
         have FI2 := Aside0.mk FI1
         clear FI FI1
         have h_ := FI2.out
         rw [List.flatMap_nil, List.nil_append] at h_
         have FI := Aside0.mk h_
         clear h_
         clear FI2
         go_wp2_with fail
         go_roundg (n.f4.length - (kka + 1))
         case measure => omega
         case rel => exact ⟨kka + 1, _, by omega, by omega, by go_num, HB, HT, HA, HBB, Bg2, FI⟩
   · have hltza : ¬ (kka : Int) < (n.f4.length : Int) := by omega
     obtain rfl : kka = n.f4.length := by omega
     have FI1 := FI.out
     rw [List.drop_length] at FI1
     have FI2 := Aside0.mk FI1
     clear FI FI1
     have FI := FI2.out
     rw [List.flatMap_nil, List.foldl_nil] at FI
     have HFI := Aside0.mk FI; clear FI
     go_wp2_with fail
     go_end0
     exact ⟨rfl, by rw [← HFI.out]; exact HA.out, by rw [← HFI.out]; exact HBB.out, HT.out⟩
end Go.Proofs.YtggfnbnochmkdaaGreat
