/- JOINED of 2 texts: Package scope: whether all that an item uses is there. Package scope: where a node is wrong first. -/
import Derived.Test.YtggfnbnochmkdaaGreatSi
import Derived.Test.YtggfnbnochmkdaaGreatSk
namespace Go.Proofs.YtggfnbnochmkdaaGreat
open Go Go.RowKit Go.Lib Go.Proofs.YtggfnbnochmkdaaGreatW.PrintWords Go.Proofs.YtggfnbnochmkdaaGreat.PScope
set_option maxRecDepth 100000
set_option linter.unusedSimpArgs false
set_option linter.unusedVariables false
def stUB (U : S42 → Bool → Int → Bool) (s : S65) : Bool := s.f1.all (fun q => U q.f1 true 1) && s.f2.all (fun y => U y.f0 true 1)
def itemUB (U : S42 → Bool → Int → Bool) (x : S47) : Bool := if x.f1.length = 0 then U x.f0.f1 false x.f0.f0.length else x.f1.all (stUB U)
def StEx (made : Bool) (s : S65) : Prop := (∀ j, j < s.f1.length → exprB made (s.f1.getD j z44).f1 = true) ∧ ∀ j, j < s.f2.length → exprB made (s.f2.getD j z93).f0 = true
def ItemEx (made : Bool) (x : S47) : Prop := (x.f1.length = 0 → exprB made x.f0.f1 = true) ∧ ∀ i, i < x.f1.length → StEx made (x.f1.getD i z65)
theorem stUB_no1 {U : S42 → Bool → Int → Bool} {s : S65} {j : Nat} {q : S44} (h : j < s.f1.length) (e : s.f1.getD j z44 = q) (hq : U q.f1 true 1 = false) : stUB U s = false := by
 unfold stUB; rw [all_getD_no s.f1 (fun q => U q.f1 true 1) z44 j h (by rw [e]; exact hq), Bool.false_and]
theorem stUB_no2 {U : S42 → Bool → Int → Bool} {s : S65} {j : Nat} {q : S93} (h : j < s.f2.length) (e : s.f2.getD j z93 = q) (hq : U q.f0 true 1 = false) : stUB U s = false := by
 unfold stUB; rw [all_getD_no s.f2 (fun q => U q.f0 true 1) z93 j h (by rw [e]; exact hq), Bool.and_false]
theorem itemUB_no {U : S42 → Bool → Int → Bool} {x : S47} {j : Nat} {s : S65} (h : j < x.f1.length) (e : x.f1.getD j z65 = s) (hq : stUB U s = false) : itemUB U x = false := by
 unfold itemUB; rw [if_neg (by omega), all_getD_no x.f1 (stUB U) z65 j h (by rw [e]; exact hq)]
theorem stUB_yes {U : S42 → Bool → Int → Bool} {s : S65} (h1 : ∀ j, j < s.f1.length → U (s.f1.getD j z44).f1 true 1 = true) (h2 : ∀ j, j < s.f2.length → U (s.f2.getD j z93).f0 true 1 = true) : stUB U s = true := by
 unfold stUB; rw [all_getD s.f1 (fun q => U q.f1 true 1) z44 h1, all_getD s.f2 (fun q => U q.f0 true 1) z93 h2]; rfl
theorem upto_step {α : Type} {P : α → Bool} {l : List α} {z y : α} {k : Nat} (h : ∀ j, j < k → P (l.getD j z) = true) (e : l.getD k z = y) (hy : P y = true) : ∀ j, j < k + 1 → P (l.getD j z) = true := by
 intro j hj
 by_cases hjk : j = k
 · subst hjk; rw [e]; exact hy
 · exact h j (by omega)
theorem upto_none {α : Type} {P : α → Bool} {l : List α} {z : α} : ∀ j, j < 0 → P (l.getD j z) = true := fun j hj => absurd hj (Nat.not_lt_zero _)
set_option maxHeartbeats 16000000 in
theorem item_walk (es : List S38) (ns : List S35) (Ae An : Option Addr) (ce cn : Nat) (w0 : World) (base : Nat) (B : Bk) (I : Ik) (m : Mp) (n0 n1 n2 n3 n4 : Value) (vs fs : ByteArray → Option Int) (made : Bool) (U : S42 → Bool → Int → Bool)
   (hus : ∀ (x : S42) (W : World) (csx : List Value) (i : Bool) (q : Int), k42.K w0 x csx → Below w0.heap.size w0 W → IAt base W B I (.slice Ae es.length ce) (.slice An ns.length cn) m n0 n1 n2 n3 n4 vs fs → exprB made x = true → Calls Tryz.prog 56 #[.pointer (some ⟨I.inn, 0, none⟩), .agg csx.toArray, .bool i, .int .i64 q] W fun e w' => e = .returned (.bool (U x i q)) ∧ Below W.heap.size W w')
   (x : S47) (w : World) (csx : List Value) (hK : k47.K w0 x csx) (hw : Below w0.heap.size w0 w) (hi : IAt base w B I (.slice Ae es.length ce) (.slice An ns.length cn) m n0 n1 n2 n3 n4 vs fs) (hx : ItemEx made x) :
   Calls Tryz.prog 33 #[.pointer (some ⟨I.inn, 0, none⟩), .agg csx.toArray] w fun e w' => e = .returned (.bool (itemUB U x)) ∧ Below w.heap.size w w' := by
 obtain ⟨A0, c0, A4, c4, A5, c5, A6, c6, rfl, l0, g0, l4, g4, l5, g5, l6, g6⟩ := k47_open hK
 have L0 := Aside0.mk l0; have G0 := Aside0.mk g0; clear l0 g0
 have L4 := Aside0.mk l4; have G4 := Aside0.mk g4; clear l4 g4
 have L5 := Aside0.mk l5; have G5 := Aside0.mk g5; clear l5 g5
 have L6 := Aside0.mk l6; have G6 := Aside0.mk g6; clear l6 g6
 clear hK
 have HB := Aside0.mk hw; have HI := Aside0.mk hi; have HX := Aside0.mk (Below.refl w.heap.size w)
 have HE := Aside0.mk hx
 clear hw hi hx
 have hu0 := Tryz.underlying42
 have hu1 := Tryz.underlying44
 have hu2 := Tryz.underlying93
 have hu3 := Tryz.underlying65
 have hu4 := Tryz.underlying47
 by_cases e0 : x.f1.length = 0
 · have t0 : ((x.f1.length : Int) == 0) = true := by rw [e0]; rfl
   have HF := Aside0.mk (show itemUB U x = U x.f0.f1 false x.f0.f0.length from if_pos e0)
   have HE0 := Aside0.mk (HE.out.1 e0)
   clear e0 HE
   go_enter Tryz.func33, Tryz.ntmps33
   go_wp2_with ((with_reducible refine gate_dst (N := 3) rfl ?_); refine box_event ?hg (N := 3) ?hd (cs := #[.slice A0 (x.f0.f0).length c0, .int .i64 x.f0.f1.f0, .string x.f0.f1.f1, .int .i64 x.f0.f1.f2, .slice A4 (x.f0.f1.f3).length c4, .slice A5 (x.f0.f1.f4).length c5, .slice A6 (x.f1).length c6]) (t := 47) ?hr ?_; (case hd => rfl); (case hg => rfl); (case hr => first | (go_simp; done) | (go_simp; rfl)); intro g3 hg_ w_ hbox hb; have B3 := Aside0.mk hbox; have LB3 := Aside0.mk ((by rw [hg_]; exact below_size HB.out) : w0.heap.size ≤ g3); replace HX := Aside0.mk (below_step HX.out hb); replace HI := Aside0.mk (HI.out.below hb); replace HB := Aside0.mk (below_step HB.out hb); clear hb hbox hg_; have c3_0 := (blk_cell B3.out 0).trans rfl; have c3_1 := (blk_cell B3.out 1).trans rfl; have c3_2 := (blk_cell B3.out 2).trans rfl; have c3_3 := (blk_cell B3.out 3).trans rfl; have c3_4 := (blk_cell B3.out 4).trans rfl; have c3_5 := (blk_cell B3.out 5).trans rfl; have c3_6 := (blk_cell B3.out 6).trans rfl)
   refine (hus x.f0.f1 _ _ false x.f0.f0.length (k42_mk w0 x.f0.f1 L4.out G4.out L5.out G5.out) HB.out (by exact HI.out) (HE0.out)).mono ?_
   rintro e w7 ⟨rfl, hb⟩
   replace B3 := Aside0.mk (below_blk B3.out hb)
   replace HI := Aside0.mk (HI.out.below hb)
   replace HX := Aside0.mk (below_step HX.out hb)
   replace HB := Aside0.mk (below_step HB.out hb)
   clear hb c3_0 c3_1 c3_2 c3_3 c3_4 c3_5 c3_6
   go_wp2_with fail
   go_ret
   exact ⟨by rw [HF.out]; rfl, HX.out⟩
 have t0 : ((x.f1.length : Int) == 0) = false := beq_eq_false_iff_ne.2 (by omega)
 have HF := Aside0.mk (show itemUB U x = x.f1.all (stUB U) from if_neg e0)
 have HE2 := Aside0.mk HE.out.2
 clear e0 HE
 go_enter Tryz.func33, Tryz.ntmps33
 go_wp2_with ((with_reducible refine gate_dst (N := 3) rfl ?_); refine box_event ?hg (N := 3) ?hd (cs := #[.slice A0 (x.f0.f0).length c0, .int .i64 x.f0.f1.f0, .string x.f0.f1.f1, .int .i64 x.f0.f1.f2, .slice A4 (x.f0.f1.f3).length c4, .slice A5 (x.f0.f1.f4).length c5, .slice A6 (x.f1).length c6]) (t := 47) ?hr ?_; (case hd => rfl); (case hg => rfl); (case hr => first | (go_simp; done) | (go_simp; rfl)); intro g3 hg_ w_ hbox hb; have B3 := Aside0.mk hbox; have LB3 := Aside0.mk ((by rw [hg_]; exact below_size HB.out) : w0.heap.size ≤ g3); replace HX := Aside0.mk (below_step HX.out hb); replace HI := Aside0.mk (HI.out.below hb); replace HB := Aside0.mk (below_step HB.out hb); clear hb hbox hg_; have c3_0 := (blk_cell B3.out 0).trans rfl; have c3_1 := (blk_cell B3.out 1).trans rfl; have c3_2 := (blk_cell B3.out 2).trans rfl; have c3_3 := (blk_cell B3.out 3).trans rfl; have c3_4 := (blk_cell B3.out 4).trans rfl; have c3_5 := (blk_cell B3.out 5).trans rfl; have c3_6 := (blk_cell B3.out 6).trans rfl)
 clear c3_0 c3_1 c3_2 c3_3 c3_4 c3_5 c3_6
 go_loopg [27] x.f1.length (fun gg s_ wr => ∃ (kka : Nat), kka ≤ x.f1.length ∧ x.f1.length - kka ≤ gg ∧ s_ = .int .i64 kka ∧ Aside0 (Below w0.heap.size w0 wr) ∧ Aside0 (Below w.heap.size w wr) ∧ Aside0 (IAt base wr B I (.slice Ae es.length ce) (.slice An ns.length cn) m n0 n1 n2 n3 n4 vs fs) ∧ Aside0 (wr.heap[g3]? = some (.cells #[.slice A0 (x.f0.f0).length c0, .int .i64 x.f0.f1.f0, .string x.f0.f1.f1, .int .i64 x.f0.f1.f2, .slice A4 (x.f0.f1.f3).length c4, .slice A5 (x.f0.f1.f4).length c5, .slice A6 (x.f1).length c6] 47 (0, 0))) ∧ Aside0 (∀ j, j < kka → stUB U (x.f1.getD j z65) = true))
 case atStart => exact ⟨0, Nat.zero_le _, by omega, rfl, HB, HX, HI, B3, ⟨upto_none (P := stUB U)⟩⟩
 case round =>
   clear HB HX HI B3
   obtain ⟨kka, hkka, hgkka, rfl, HB, HX, HI, B3, Na⟩ := hrel
   have hmxa : x.f1.length ≤ 9223372036854775807 := (G6.out).2.1
   by_cases hlta : kka < x.f1.length
   · have hltza : (kka : Int) < (x.f1.length : Int) := by omega
     have hes := HE2.out kka hlta
     obtain ⟨sad, scs, rfl, _, sK, scc⟩ := Kd.C_get G6.out z65 (kka : Int) (by omega) (by omega)
     have sK' := sK
     obtain ⟨sA1, sc1, sA2, sc2, rfl, sl1, sg1, sl2, sg2⟩ := k65_open sK'
     have sx0 := (HB.out.cell (World.block_lt_of_cell? w0 _ (scc 0 _ rfl))).trans (scc 0 _ rfl)
     have sx1 := (HB.out.cell (World.block_lt_of_cell? w0 _ (scc 1 _ rfl))).trans (scc 1 _ rfl)
     have sx2 := (HB.out.cell (World.block_lt_of_cell? w0 _ (scc 2 _ rfl))).trans (scc 2 _ rfl)
     rw [show (k65).sz = 3 from rfl, Nat.add_zero, Int.toNat_natCast] at sx0
     rw [show (k65).sz = 3 from rfl, Int.toNat_natCast, add_field _ _ 1 (by omega)] at sx1
     rw [show (k65).sz = 3 from rfl, Int.toNat_natCast, add_field _ _ 2 (by omega)] at sx2
     clear scc
     try simp only [Int.toNat_natCast] at sx0 sx1 sx2 sK sl1 sg1 sl2 sg2
     generalize Ys0 : x.f1.getD kka z65 = s at hes sx0 sx1 sx2 sK sl1 sg1 sl2 sg2
     have Ys := Aside0.mk Ys0; clear Ys0
     have sL1 := Aside0.mk sl1; have sG1 := Aside0.mk sg1; clear sl1 sg1
     have sL2 := Aside0.mk sl2; have sG2 := Aside0.mk sg2; clear sl2 sg2
     have HES := Aside0.mk hes; clear hes
     go_wp2_with ((with_reducible refine gate_store (t := 65) (p := 6) rfl ?_); refine store_whole rfl rfl 65 _ _ rfl wr.heap.size _ 65 rfl (blk_new _ _) _ rfl rfl rfl (by simp [Value.oneCell']) ?_; intro w2 hb2 hg2; replace B3 := Aside0.mk (blk_as B3.out hg2); replace HB := Aside0.mk (below_as HB.out hg2); replace HX := Aside0.mk (below_as HX.out hg2); replace HI := Aside0.mk (HI.out.as hg2); obtain ⟨g6, hq_⟩ : ∃ g_, g_ = wr.heap.size := ⟨_, rfl⟩; rw [← hq_] at hb2; rw [← hq_]; have B6 := Aside0.mk hb2; clear hb2 hg2 hq_; have c6_0 := (blk_cell B6.out 0).trans rfl; have c6_1 := (blk_cell B6.out 1).trans rfl; have c6_2 := (blk_cell B6.out 2).trans rfl)
     clear c6_0 c6_1 c6_2
     go_loopg [34] s.f1.length (fun gg s_ wr => ∃ (kkb : Nat), kkb ≤ s.f1.length ∧ s.f1.length - kkb ≤ gg ∧ s_ = .int .i64 kkb ∧ Aside0 (Below w0.heap.size w0 wr) ∧ Aside0 (Below w.heap.size w wr) ∧ Aside0 (IAt base wr B I (.slice Ae es.length ce) (.slice An ns.length cn) m n0 n1 n2 n3 n4 vs fs) ∧ Aside0 (wr.heap[g3]? = some (.cells #[.slice A0 (x.f0.f0).length c0, .int .i64 x.f0.f1.f0, .string x.f0.f1.f1, .int .i64 x.f0.f1.f2, .slice A4 (x.f0.f1.f3).length c4, .slice A5 (x.f0.f1.f4).length c5, .slice (some sad) (x.f1).length c6] 47 (0, 0))) ∧ Aside0 (wr.heap[g6]? = some (.cells #[.string s.f0, .slice sA1 (s.f1).length sc1, .slice sA2 (s.f2).length sc2] 65 (0, 0))) ∧ Aside0 (∀ j, j < kkb → U (s.f1.getD j z44).f1 true 1 = true))
     case atStart => exact ⟨0, Nat.zero_le _, by omega, rfl, HB, HX, HI, B3, B6, ⟨upto_none (P := fun q : S44 => U q.f1 true 1)⟩⟩
     case round =>
       clear HB HX HI B3 B6
       obtain ⟨kkb, hkkb, hgkkb, rfl, HB, HX, HI, B3, B6, Nb⟩ := hrel
       have hmxb : s.f1.length ≤ 9223372036854775807 := (sG1.out).2.1
       by_cases hltb : kkb < s.f1.length
       · have hltzb : (kkb : Int) < (s.f1.length : Int) := by omega
         have hex := HES.out.1 kkb hltb
         obtain ⟨qad, qcs, rfl, _, qK, qcc⟩ := Kd.C_get sG1.out z44 (kkb : Int) (by omega) (by omega)
         have qK' := qK
         obtain ⟨qA0, qc0, qA4, qc4, qA5, qc5, rfl, ql0, qg0, ql4, qg4, ql5, qg5⟩ := k44_open qK'
         have qx0 := (HB.out.cell (World.block_lt_of_cell? w0 _ (qcc 0 _ rfl))).trans (qcc 0 _ rfl)
         have qx1 := (HB.out.cell (World.block_lt_of_cell? w0 _ (qcc 1 _ rfl))).trans (qcc 1 _ rfl)
         have qx2 := (HB.out.cell (World.block_lt_of_cell? w0 _ (qcc 2 _ rfl))).trans (qcc 2 _ rfl)
         have qx3 := (HB.out.cell (World.block_lt_of_cell? w0 _ (qcc 3 _ rfl))).trans (qcc 3 _ rfl)
         have qx4 := (HB.out.cell (World.block_lt_of_cell? w0 _ (qcc 4 _ rfl))).trans (qcc 4 _ rfl)
         have qx5 := (HB.out.cell (World.block_lt_of_cell? w0 _ (qcc 5 _ rfl))).trans (qcc 5 _ rfl)
         rw [show (k44).sz = 6 from rfl, Nat.add_zero, Int.toNat_natCast] at qx0
         rw [show (k44).sz = 6 from rfl, Int.toNat_natCast, add_field _ _ 1 (by omega)] at qx1
         rw [show (k44).sz = 6 from rfl, Int.toNat_natCast, add_field _ _ 2 (by omega)] at qx2
         rw [show (k44).sz = 6 from rfl, Int.toNat_natCast, add_field _ _ 3 (by omega)] at qx3
         rw [show (k44).sz = 6 from rfl, Int.toNat_natCast, add_field _ _ 4 (by omega)] at qx4
         rw [show (k44).sz = 6 from rfl, Int.toNat_natCast, add_field _ _ 5 (by omega)] at qx5
         clear qcc
         try simp only [Int.toNat_natCast] at qx0 qx1 qx2 qx3 qx4 qx5 qK ql0 qg0 ql4 qg4 ql5 qg5
         generalize Yq0 : s.f1.getD kkb z44 = q at hex qx0 qx1 qx2 qx3 qx4 qx5 qK ql0 qg0 ql4 qg4 ql5 qg5
         have Yq := Aside0.mk Yq0; clear Yq0
         have qL0 := Aside0.mk ql0; have qG0 := Aside0.mk qg0; clear ql0 qg0
         have qL4 := Aside0.mk ql4; have qG4 := Aside0.mk qg4; clear ql4 qg4
         have qL5 := Aside0.mk ql5; have qG5 := Aside0.mk qg5; clear ql5 qg5
         have HEX := Aside0.mk hex; clear hex
         go_wp2_with ((with_reducible refine gate_store (t := 44) (p := 8) rfl ?_); refine store_whole rfl rfl 44 _ _ rfl wr.heap.size _ 44 rfl (blk_new _ _) _ rfl rfl rfl (by simp [Value.oneCell']) ?_; intro w2 hb2 hg2; replace B3 := Aside0.mk (blk_as B3.out hg2); replace B6 := Aside0.mk (blk_as B6.out hg2); replace HB := Aside0.mk (below_as HB.out hg2); replace HX := Aside0.mk (below_as HX.out hg2); replace HI := Aside0.mk (HI.out.as hg2); obtain ⟨g8, hq_⟩ : ∃ g_, g_ = wr.heap.size := ⟨_, rfl⟩; rw [← hq_] at hb2; rw [← hq_]; have B8 := Aside0.mk hb2; clear hb2 hg2 hq_; have ce_0 := (blk_cell B8.out 0).trans rfl; have ce_1 := (blk_cell B8.out 1).trans rfl; have ce_2 := (blk_cell B8.out 2).trans rfl; have ce_3 := (blk_cell B8.out 3).trans rfl; have ce_4 := (blk_cell B8.out 4).trans rfl; have ce_5 := (blk_cell B8.out 5).trans rfl)
         refine (hus q.f1 _ _ true 1 (k42_mk w0 q.f1 qL4.out qG4.out qL5.out qG5.out) HB.out (by exact HI.out) (HEX.out)).mono ?_
         rintro e w8 ⟨rfl, hb⟩
         replace B3 := Aside0.mk (below_blk B3.out hb)
         replace B6 := Aside0.mk (below_blk B6.out hb)
         replace HI := Aside0.mk (HI.out.below hb)
         replace HX := Aside0.mk (below_step HX.out hb)
         replace HB := Aside0.mk (below_step HB.out hb)
         clear hb ce_0 ce_1 ce_2 ce_3 ce_4 ce_5 B8
         cases hub : U (q.f1) true 1 with
         | false =>
           go_wp2_with fail
           go_ret
           exact ⟨(itemUB_no hlta Ys.out (stUB_no1 hltb Yq.out hub)).symm ▸ rfl, HX.out⟩
         | true =>
           have HUB := Aside0.mk hub; clear hub
           go_wp2_with fail
           go_roundg (s.f1.length - (kkb + 1))
           case measure => omega
           case rel => exact ⟨kkb + 1, by omega, by omega, by go_num, HB, HX, HI, B3, B6, ⟨upto_step (P := fun q => U q.f1 true 1) Nb.out Yq.out HUB.out⟩⟩
       · have hltzb : ¬ (kkb : Int) < (s.f1.length : Int) := by omega
         obtain rfl : kkb = s.f1.length := by omega
         have c6_0 := (blk_cell B6.out 0).trans rfl
         have c6_1 := (blk_cell B6.out 1).trans rfl
         have c6_2 := (blk_cell B6.out 2).trans rfl
         go_wp2_with fail
         clear c6_0 c6_1 c6_2
         go_loopg [47] s.f2.length (fun gg s_ wr => ∃ (kkc : Nat), kkc ≤ s.f2.length ∧ s.f2.length - kkc ≤ gg ∧ s_ = .int .i64 kkc ∧ Aside0 (Below w0.heap.size w0 wr) ∧ Aside0 (Below w.heap.size w wr) ∧ Aside0 (IAt base wr B I (.slice Ae es.length ce) (.slice An ns.length cn) m n0 n1 n2 n3 n4 vs fs) ∧ Aside0 (wr.heap[g3]? = some (.cells #[.slice A0 (x.f0.f0).length c0, .int .i64 x.f0.f1.f0, .string x.f0.f1.f1, .int .i64 x.f0.f1.f2, .slice A4 (x.f0.f1.f3).length c4, .slice A5 (x.f0.f1.f4).length c5, .slice (some sad) (x.f1).length c6] 47 (0, 0))) ∧ Aside0 (wr.heap[g6]? = some (.cells #[.string s.f0, .slice sA1 (s.f1).length sc1, .slice sA2 (s.f2).length sc2] 65 (0, 0))) ∧ Aside0 (∀ j, j < kkc → U (s.f2.getD j z93).f0 true 1 = true))
         case atStart => exact ⟨0, Nat.zero_le _, by omega, rfl, HB, HX, HI, B3, B6, ⟨upto_none (P := fun q : S93 => U q.f0 true 1)⟩⟩
         case round =>
           clear HB HX HI B3 B6
           obtain ⟨kkc, hkkc, hgkkc, rfl, HB, HX, HI, B3, B6, Nc⟩ := hrel
           have hmxc : s.f2.length ≤ 9223372036854775807 := (sG2.out).2.1
           by_cases hltc : kkc < s.f2.length
           · have hltzc : (kkc : Int) < (s.f2.length : Int) := by omega
             have hex := HES.out.2 kkc hltc
             obtain ⟨yad, ycs, rfl, _, yK, ycc⟩ := Kd.C_get sG2.out z93 (kkc : Int) (by omega) (by omega)
             have yK' := yK
             obtain ⟨yA3, yc3, yA4, yc4, rfl, yl3, yg3, yl4, yg4⟩ := k93_open yK'
             have yx0 := (HB.out.cell (World.block_lt_of_cell? w0 _ (ycc 0 _ rfl))).trans (ycc 0 _ rfl)
             have yx1 := (HB.out.cell (World.block_lt_of_cell? w0 _ (ycc 1 _ rfl))).trans (ycc 1 _ rfl)
             have yx2 := (HB.out.cell (World.block_lt_of_cell? w0 _ (ycc 2 _ rfl))).trans (ycc 2 _ rfl)
             have yx3 := (HB.out.cell (World.block_lt_of_cell? w0 _ (ycc 3 _ rfl))).trans (ycc 3 _ rfl)
             have yx4 := (HB.out.cell (World.block_lt_of_cell? w0 _ (ycc 4 _ rfl))).trans (ycc 4 _ rfl)
             have yx5 := (HB.out.cell (World.block_lt_of_cell? w0 _ (ycc 5 _ rfl))).trans (ycc 5 _ rfl)
             rw [show (k93).sz = 6 from rfl, Nat.add_zero, Int.toNat_natCast] at yx0
             rw [show (k93).sz = 6 from rfl, Int.toNat_natCast, add_field _ _ 1 (by omega)] at yx1
             rw [show (k93).sz = 6 from rfl, Int.toNat_natCast, add_field _ _ 2 (by omega)] at yx2
             rw [show (k93).sz = 6 from rfl, Int.toNat_natCast, add_field _ _ 3 (by omega)] at yx3
             rw [show (k93).sz = 6 from rfl, Int.toNat_natCast, add_field _ _ 4 (by omega)] at yx4
             rw [show (k93).sz = 6 from rfl, Int.toNat_natCast, add_field _ _ 5 (by omega)] at yx5
             clear ycc
             try simp only [Int.toNat_natCast] at yx0 yx1 yx2 yx3 yx4 yx5 yK yl3 yg3 yl4 yg4
             generalize Yy0 : s.f2.getD kkc z93 = y at hex yx0 yx1 yx2 yx3 yx4 yx5 yK yl3 yg3 yl4 yg4
             have Yy := Aside0.mk Yy0; clear Yy0
             have yL3 := Aside0.mk yl3; have yG3 := Aside0.mk yg3; clear yl3 yg3
             have yL4 := Aside0.mk yl4; have yG4 := Aside0.mk yg4; clear yl4 yg4
             have HEX := Aside0.mk hex; clear hex
             go_wp2_with ((with_reducible refine gate_store (t := 93) (p := 10) rfl ?_); refine store_whole rfl rfl 93 _ _ rfl wr.heap.size _ 93 rfl (blk_new _ _) _ rfl rfl rfl (by simp [Value.oneCell']) ?_; intro w2 hb2 hg2; replace B3 := Aside0.mk (blk_as B3.out hg2); replace B6 := Aside0.mk (blk_as B6.out hg2); replace HB := Aside0.mk (below_as HB.out hg2); replace HX := Aside0.mk (below_as HX.out hg2); replace HI := Aside0.mk (HI.out.as hg2); obtain ⟨g10, hq_⟩ : ∃ g_, g_ = wr.heap.size := ⟨_, rfl⟩; rw [← hq_] at hb2; rw [← hq_]; have B10 := Aside0.mk hb2; clear hb2 hg2 hq_; have ce_0 := (blk_cell B10.out 0).trans rfl; have ce_1 := (blk_cell B10.out 1).trans rfl; have ce_2 := (blk_cell B10.out 2).trans rfl; have ce_3 := (blk_cell B10.out 3).trans rfl; have ce_4 := (blk_cell B10.out 4).trans rfl; have ce_5 := (blk_cell B10.out 5).trans rfl)
             refine (hus y.f0 _ _ true 1 (k42_mk w0 y.f0 yL3.out yG3.out yL4.out yG4.out) HB.out (by exact HI.out) (HEX.out)).mono ?_
             rintro e w8 ⟨rfl, hb⟩
             replace B3 := Aside0.mk (below_blk B3.out hb)
             replace B6 := Aside0.mk (below_blk B6.out hb)
             replace HI := Aside0.mk (HI.out.below hb)
             replace HX := Aside0.mk (below_step HX.out hb)
             replace HB := Aside0.mk (below_step HB.out hb)
             clear hb ce_0 ce_1 ce_2 ce_3 ce_4 ce_5 B10
             cases hub : U (y.f0) true 1 with
             | false =>
               go_wp2_with fail
               go_ret
               exact ⟨(itemUB_no hlta Ys.out (stUB_no2 hltc Yy.out hub)).symm ▸ rfl, HX.out⟩
             | true =>
               have HUB := Aside0.mk hub; clear hub
               go_wp2_with fail
               go_roundg (s.f2.length - (kkc + 1))
               case measure => omega
               case rel => exact ⟨kkc + 1, by omega, by omega, by go_num, HB, HX, HI, B3, B6, ⟨upto_step (P := fun q => U q.f0 true 1) Nc.out Yy.out HUB.out⟩⟩
           · have hltzc : ¬ (kkc : Int) < (s.f2.length : Int) := by omega
             obtain rfl : kkc = s.f2.length := by omega
             have HUA := Aside0.mk (stUB_yes Nb.out Nc.out)
             clear Nb Nc
             go_wp2_with fail
             go_roundg (x.f1.length - (kka + 1))
             case measure => omega
             case rel => exact ⟨kka + 1, by omega, by omega, by go_num, HB, HX, HI, B3, ⟨upto_step (P := stUB U) Na.out Ys.out HUA.out⟩⟩
   · have hltza : ¬ (kka : Int) < (x.f1.length : Int) := by omega
     obtain rfl : kka = x.f1.length := by omega
     have HALL := Aside0.mk (all_getD x.f1 (stUB U) z65 Na.out)
     go_wp2_with fail
     go_ret
     exact ⟨by rw [HF.out, HALL.out]; rfl, HX.out⟩
theorem sitem_calls (es : List S38) (ns : List S35) (Ae An : Option Addr) (ce cn : Nat) (w0 : World) (base : Nat) (B : Bk) (I : Ik) (m : Mp) (n0 n1 n2 n3 n4 : Value) (vs fs : ByteArray → Option Int) (made : Bool) (hE : k38.C w0 Ae es.length es) (hN : k35.C w0 An ns.length ns) (hok : NodesOk m ns) (hon : OnesOk fs) (x : S47) (w : World) (csx : List Value) (hK : k47.K w0 x csx) (hw : Below w0.heap.size w0 w) (hi : IAt base w B I (.slice Ae es.length ce) (.slice An ns.length cn) m n0 n1 n2 n3 n4 vs fs) (hx : ItemEx made x) :
   Calls Tryz.prog 33 #[.pointer (some ⟨I.inn, 0, none⟩), .agg csx.toArray] w fun e w' => e = .returned (.bool (itemUB (usesB m vs fs es ns) x)) ∧ Below w.heap.size w w' :=
 item_walk es ns Ae An ce cn w0 base B I m n0 n1 n2 n3 n4 vs fs made _ (fun y W cy i q hy hW hI hm => uses_says es ns Ae An ce cn w0 base B I m n0 n1 n2 n3 n4 vs fs made hE hN hok hon (SizeOf.sizeOf y) y (Nat.le_refl _) W cy i q hy hW hI hm) x w csx hK hw hi hx
abbrev SMap := ByteArray → Option Int
def runDefs : Mp → SMap → List S47 → Nat → Option Nat × Mp × SMap
 | m, V, [], _ => (none, m, V)
 | m, V, x :: r, b => if defB m V x (definesL x) = true then runDefs (defM m x) (addM V 1 (definesL x)) r (b + 1) else (some b, m, V)
def firstUse (U : S42 → Bool → Int → Bool) : List S47 → Nat → Option Nat
 | [], _ => none
 | x :: r, b => if itemUB U x = true then firstUse U r (b + 1) else some b
def unset (V : SMap) (s : ByteArray) : Bool := (V s).getD 0 == 0
def nodeE (m : Mp) (q : Option Nat) : Int × Bool × Mp := match q with | some b => ((b : Int), true, m) | none => (0, false, m)
def nodeT (es : List S38) (ns : List S35) (n : S35) (R : Option Nat × Mp × SMap) : Int × Bool × Mp :=
 match R with
 | (some b, m, _) => ((b : Int), true, m)
 | (none, m, V) => if n.f3.any (unset V) = true then (-1, true, m) else nodeE m (firstUse (usesB m V (mkM 1 n.f1) es ns) n.f4 0)
def nodeR (es : List S38) (ns : List S35) (m : Mp) (n : S35) : Int × Bool × Mp :=
 if headB m n = true then nodeT es ns n (runDefs m (mkM 0 n.f2) n.f4 0) else (-1, true, m)
theorem runDefs_no {m : Mp} {V : SMap} {l : List S47} {k : Nat} {y : S47} (h : k < l.length) (e : l.getD k z47 = y) (b : Nat) (hd : defB m V y (definesL y) = false) : runDefs m V (l.drop k) b = (some b, m, V) := by
 rw [drop_getD2 l z47 k h, e, runDefs, hd]; rfl
theorem runDefs_yes {m : Mp} {V : SMap} {l : List S47} {k : Nat} {y : S47} (h : k < l.length) (e : l.getD k z47 = y) (b : Nat) (hd : defB m V y (definesL y) = true) : runDefs m V (l.drop k) b = runDefs (defM m y) (addM V 1 (definesL y)) (l.drop (k + 1)) (b + 1) := by
 rw [drop_getD2 l z47 k h, e, runDefs, if_pos hd]
theorem firstUse_no {U : S42 → Bool → Int → Bool} {l : List S47} {k : Nat} {y : S47} (h : k < l.length) (e : l.getD k z47 = y) (b : Nat) (hd : itemUB U y = false) : firstUse U (l.drop k) b = some b := by
 rw [drop_getD2 l z47 k h, e, firstUse, hd]; rfl
theorem firstUse_yes {U : S42 → Bool → Int → Bool} {l : List S47} {k : Nat} {y : S47} (h : k < l.length) (e : l.getD k z47 = y) (b : Nat) (hd : itemUB U y = true) : firstUse U (l.drop k) b = firstUse U (l.drop (k + 1)) (b + 1) := by
 rw [drop_getD2 l z47 k h, e, firstUse, if_pos hd]
theorem runDefs_nodes (l : List S47) : ∀ (m : Mp) (V : SMap) (b : Nat), (runDefs m V l b).2.1.nodes = m.nodes := by
 induction l with
 | nil => intro m V b; rfl
 | cons x r ih => intro m V b; rw [runDefs]; split; exact ih _ _ _; rfl
theorem getI0 (F : SMap) (s : ByteArray) : (menc encI F s).getD (.int .i64 0) = .int .i64 ((F s).getD 0) := by unfold menc; cases F s <;> rfl
theorem onesOk_mk (l : List ByteArray) : OnesOk (mkM 1 l) := by
 intro s k h
 unfold mkM at h
 split at h
 · exact (Option.some.inj h).symm
 · cases h
def ItemFit (made : Bool) (x : S47) : Prop := ItemEx made x ∧ (definesL x).length * 16 ≤ 140737488355328 ∧ ∀ i, i < x.f1.length → (x.f1.getD i z65).f1.length ≤ 24
def NodeFit (made : Bool) (n : S35) : Prop := (n.f1.length ≤ 100 ∧ n.f2.length ≤ 100) ∧ ∀ i, i < n.f4.length → ItemFit made (n.f4.getD i z47)
def NodePost (B : Bk) (pe pn : Value) (w0 : World) (w : World) (R : Int × Bool × Mp) (e : Ending) (w' : World) : Prop :=
 ∃ a b m', R = (a, b, m') ∧ e = .returned (.tuple #[.int .i64 a, .bool b]) ∧ Below w0.heap.size w0 w' ∧ CKept w w' ∧ (b = false → WAt w0.heap.size w' B pe pn m')
set_option maxHeartbeats 16000000 in
theorem snode_calls (made : Bool) (es : List S38) (ns : List S35) (Ae An : Option Addr) (ce cn : Nat) (w0 : World) (hE : k38.C w0 Ae es.length es) (hN : k35.C w0 An ns.length ns) (B : Bk) (m : Mp) (n : S35) (w : World) (csx : List Value)
   (hK : k35.K w0 n csx) (hw : Below w0.heap.size w0 w) (hwd : WAt w0.heap.size w B (.slice Ae es.length ce) (.slice An ns.length cn) m) (hok : NodesOk m ns) (hf : NodeFit made n) :
   Calls Tryz.prog 15 #[.pointer (some ⟨B.wd, 0, none⟩), .agg csx.toArray] w (NodePost B (.slice Ae es.length ce) (.slice An ns.length cn) w0 w (nodeR es ns m n)) := by
 obtain ⟨A1, c1, A2, c2, A3, c3, A4, c4, rfl, l1, g1, l2, g2, l3, g3, l4, g4⟩ := k35_open hK
 have L1 := Aside0.mk l1; have G1 := Aside0.mk g1; clear l1 g1
 have L2 := Aside0.mk l2; have G2 := Aside0.mk g2; clear l2 g2
 have L3 := Aside0.mk l3; have G3 := Aside0.mk g3; clear l3 g3
 have L4 := Aside0.mk l4; have G4 := Aside0.mk g4; clear l4 g4
 clear hK
 have HB := Aside0.mk hw; have HW := Aside0.mk hwd; have HFIT := Aside0.mk hf; have HOK := Aside0.mk hok; have HX := Aside0.mk (CKept.refl w)
 clear hw hwd hf hok
 have hhead := fun (W : World) (hB : Below w0.heap.size w0 W) (hW : WAt w0.heap.size W B (.slice Ae es.length ce) (.slice An ns.length cn) m) => head_calls n A1 A2 A3 A4 Ae An c1 c2 c3 c4 es.length ce ns.length cn W W L1.out (Kd.C_below G1.out hB) L2.out (Kd.C_below G2.out hB) L3.out (Kd.C_below G3.out hB) (Below.refl _ _) w0.heap.size hB.size B m hW HFIT.out.1
 have HR := Aside0.mk (show nodeR es ns m n = (if headB m n = true then nodeT es ns n (runDefs m (mkM 0 n.f2) n.f4 0) else (-1, true, m)) from rfl)
 have HND := Aside0.mk (runDefs_nodes n.f4 m (mkM 0 n.f2) 0)
 have HD0 := Aside0.mk (show runDefs m (mkM 0 n.f2) (n.f4.drop 0) 0 = runDefs m (mkM 0 n.f2) n.f4 0 by rw [List.drop_zero])
 generalize runDefs m (mkM 0 n.f2) n.f4 0 = R at HR HND HD0
 have hm1 := Tryz.underlying58
 have hk := Tryz.underlying9
 have hz : ∀ W, (zeroValue 3).run Tryz.prog W = .ok (.int .i64 0) W := fun W => by kernel_rfl
 have hu1 := Tryz.underlying35
 have hu2 := Tryz.underlying47
 have hu5 := Tryz.underlying83
 have hu6 := Tryz.underlying60
 go_enter Tryz.func15, Tryz.ntmps15
 go_wp2_with ((with_reducible refine gate_dst (N := 3) rfl ?_); refine box_event ?hg (N := 3) ?hd (cs := #[.string n.f0, .slice A1 (n.f1).length c1, .slice A2 (n.f2).length c2, .slice A3 (n.f3).length c3, .slice A4 (n.f4).length c4]) (t := 35) ?hr ?_; (case hd => rfl); (case hg => rfl); (case hr => first | (go_simp; done) | (go_simp; rfl)); intro g3 hg_ w_ hbox hb; have B3 := Aside0.mk hbox; have LB3 := Aside0.mk ((by rw [hg_]; exact below_size HB.out) : w0.heap.size ≤ g3); replace HW := Aside0.mk (HW.out.below hb); replace HX := Aside0.mk (HX.out.below hb); replace HB := Aside0.mk (below_step HB.out hb); clear hb hbox hg_; have c3_0 := (blk_cell B3.out 0).trans rfl; have c3_1 := (blk_cell B3.out 1).trans rfl; have c3_2 := (blk_cell B3.out 2).trans rfl; have c3_3 := (blk_cell B3.out 3).trans rfl; have c3_4 := (blk_cell B3.out 4).trans rfl)
 refine (hhead _ HB.out (by exact HW.out)).mono ?_
 unfold HeadPost
 generalize headB m n = hd at HR ⊢
 rintro e w5 ⟨I, rfl, hb, hi⟩
 skip
 replace B3 := Aside0.mk (below_blk B3.out hb)
 replace HX := Aside0.mk (HX.out.below hb)
 replace HB := Aside0.mk (below_step HB.out hb)
 clear HW
 have HI := Aside0.mk hi
 clear hb hi hhead c3_0 c3_1 c3_2 c3_3 c3_4
 cases hd with
 | false =>
   have HF := Aside0.mk (show nodeR es ns m n = (-1, true, m) by rw [HR.out]; rfl)
   go_wp2_with fail
   go_ret2
   exact ⟨_, _, _, HF.out, rfl, HB.out, HX.out, fun h => absurd h (by simp)⟩
 | true =>
 have HF := Aside0.mk (show nodeR es ns m n = nodeT es ns n R by rw [HR.out]; rfl)
 clear HR
 have c3_0 := (blk_cell B3.out 0).trans rfl
 have c3_1 := (blk_cell B3.out 1).trans rfl
 have c3_2 := (blk_cell B3.out 2).trans rfl
 have c3_3 := (blk_cell B3.out 3).trans rfl
 have c3_4 := (blk_cell B3.out 4).trans rfl
 go_wp2_with fail
 clear c3_0 c3_1 c3_2 c3_3 c3_4
 go_loopg [25] n.f4.length (fun gg s_ wr => ∃ (kka : Nat) (mk : Mp) (Vk : SMap), kka ≤ n.f4.length ∧ n.f4.length - kka ≤ gg ∧ s_ = .int .i64 kka ∧ Aside0 (Below w0.heap.size w0 wr) ∧ Aside0 (CKept w wr) ∧ Aside0 (wr.heap[g3]? = some (.cells #[.string n.f0, .slice A1 (n.f1).length c1, .slice A2 (n.f2).length c2, .slice A3 (n.f3).length c3, .slice A4 (n.f4).length c4] 35 (0, 0))) ∧ Aside0 (IAt w0.heap.size wr B I (.slice Ae es.length ce) (.slice An ns.length cn) mk (.string n.f0) (.slice A1 n.f1.length c1) (.slice A2 n.f2.length c2) (.slice A3 n.f3.length c3) (.slice A4 n.f4.length c4) Vk (mkM 1 n.f1)) ∧ Aside0 (runDefs mk Vk (n.f4.drop kka) kka = R) ∧ Aside0 (mk.nodes = m.nodes))
 case atStart => exact ⟨0, m, mkM 0 n.f2, Nat.zero_le _, by omega, rfl, HB, HX, B3, HI, HD0, ⟨rfl⟩⟩
 case round =>
   clear HB HX B3 HI
   obtain ⟨kka, mk, Vk, hkka, hgkka, rfl, HB, HX, B3, HI, HRK, HNK⟩ := hrel
   have hmxa : n.f4.length ≤ 9223372036854775807 := (G4.out).2.1
   by_cases hlta : kka < n.f4.length
   · have hltza : (kka : Int) < (n.f4.length : Int) := by omega
     have hfit := HFIT.out.2 kka hlta
     have hno := runDefs_no (m := mk) (V := Vk) (l := n.f4) (k := kka) (y := n.f4.getD kka z47) hlta rfl kka
     have hyes := runDefs_yes (m := mk) (V := Vk) (l := n.f4) (k := kka) (y := n.f4.getD kka z47) hlta rfl kka
     obtain ⟨yad, ycs, rfl, _, yK, ycc⟩ := Kd.C_get G4.out z47 (kka : Int) (by omega) (by omega)
     have yK' := yK
     obtain ⟨yA0, yc0, yA4, yc4, yA5, yc5, yA6, yc6, rfl, yl0, yg0, yl4, yg4, yl5, yg5, yl6, yg6⟩ := k47_open yK'
     have yx0 := (HB.out.cell (World.block_lt_of_cell? w0 _ (ycc 0 _ rfl))).trans (ycc 0 _ rfl)
     have yx1 := (HB.out.cell (World.block_lt_of_cell? w0 _ (ycc 1 _ rfl))).trans (ycc 1 _ rfl)
     have yx2 := (HB.out.cell (World.block_lt_of_cell? w0 _ (ycc 2 _ rfl))).trans (ycc 2 _ rfl)
     have yx3 := (HB.out.cell (World.block_lt_of_cell? w0 _ (ycc 3 _ rfl))).trans (ycc 3 _ rfl)
     have yx4 := (HB.out.cell (World.block_lt_of_cell? w0 _ (ycc 4 _ rfl))).trans (ycc 4 _ rfl)
     have yx5 := (HB.out.cell (World.block_lt_of_cell? w0 _ (ycc 5 _ rfl))).trans (ycc 5 _ rfl)
     have yx6 := (HB.out.cell (World.block_lt_of_cell? w0 _ (ycc 6 _ rfl))).trans (ycc 6 _ rfl)
     rw [show (k47).sz = 7 from rfl, Nat.add_zero, Int.toNat_natCast] at yx0
     rw [show (k47).sz = 7 from rfl, Int.toNat_natCast, add_field _ _ 1 (by omega)] at yx1
     rw [show (k47).sz = 7 from rfl, Int.toNat_natCast, add_field _ _ 2 (by omega)] at yx2
     rw [show (k47).sz = 7 from rfl, Int.toNat_natCast, add_field _ _ 3 (by omega)] at yx3
     rw [show (k47).sz = 7 from rfl, Int.toNat_natCast, add_field _ _ 4 (by omega)] at yx4
     rw [show (k47).sz = 7 from rfl, Int.toNat_natCast, add_field _ _ 5 (by omega)] at yx5
     rw [show (k47).sz = 7 from rfl, Int.toNat_natCast, add_field _ _ 6 (by omega)] at yx6
     clear ycc
     try simp only [Int.toNat_natCast] at yx0 yx1 yx2 yx3 yx4 yx5 yx6 yK yl0 yg0 yl4 yg4 yl5 yg5 yl6 yg6
     generalize Yy0 : n.f4.getD kka z47 = y at hfit hno hyes yx0 yx1 yx2 yx3 yx4 yx5 yx6 yK yl0 yg0 yl4 yg4 yl5 yg5 yl6 yg6
     have Yy := Aside0.mk Yy0; clear Yy0
     have yL0 := Aside0.mk yl0; have yG0 := Aside0.mk yg0; clear yl0 yg0
     have yL4 := Aside0.mk yl4; have yG4 := Aside0.mk yg4; clear yl4 yg4
     have yL5 := Aside0.mk yl5; have yG5 := Aside0.mk yg5; clear yl5 yg5
     have yL6 := Aside0.mk yl6; have yG6 := Aside0.mk yg6; clear yl6 yg6
     have HFI := Aside0.mk hfit; have HNO := Aside0.mk hno; have HYES := Aside0.mk hyes; have YK := Aside0.mk yK
     clear hfit hno hyes yK
     go_wp2_with ((with_reducible refine gate_store (t := 47) (p := 9) rfl ?_); refine store_whole rfl rfl 47 _ _ rfl wr.heap.size _ 47 rfl (blk_new _ _) _ rfl rfl rfl (by simp [Value.oneCell']) ?_; intro w2 hb2 hg2; replace B3 := Aside0.mk (blk_as B3.out hg2); replace HB := Aside0.mk (below_as HB.out hg2); replace HI := Aside0.mk (HI.out.as hg2); replace HX := Aside0.mk (HX.out.as hg2); obtain ⟨g9, hq_⟩ : ∃ g_, g_ = wr.heap.size := ⟨_, rfl⟩; rw [← hq_] at hb2; rw [← hq_]; have B9 := Aside0.mk hb2; clear hb2 hg2 hq_; have c9_0 := (blk_cell B9.out 0).trans rfl; have c9_1 := (blk_cell B9.out 1).trans rfl; have c9_2 := (blk_cell B9.out 2).trans rfl; have c9_3 := (blk_cell B9.out 3).trans rfl; have c9_4 := (blk_cell B9.out 4).trans rfl; have c9_5 := (blk_cell B9.out 5).trans rfl; have c9_6 := (blk_cell B9.out 6).trans rfl)
     refine (idefines_walk Ae An es.length ns.length ce cn w0 B I mk _ _ _ _ _ Vk _ y (definesL y) _ _ (fun W hB => defines_calls y W _ (Kd.K_below _ hB YK.out) HFI.out.2.1) YK.out HB.out (by exact HI.out) HFI.out.2.2).mono ?_
     rintro e w8 ⟨b, hb_, rfl, hb, hx, hi⟩
     replace B3 := Aside0.mk (hx.2 _ _ _ _ B3.out)
     replace HX := Aside0.mk (HX.out.trans hx)
     have HBD := Aside0.mk hb_; have HB2 := Aside0.mk hb; have HI2 := Aside0.mk hi
     skip
     clear hb_ hb hi hx c9_0 c9_1 c9_2 c9_3 c9_4 c9_5 c9_6
     cases b with
     | false =>
       have HF2 := Aside0.mk (show nodeR es ns m n = ((kka : Int), true, mk) by rw [HF.out, ← HRK.out, HNO.out HBD.out.symm]; rfl)
       go_wp2_with fail
       go_ret2
       exact ⟨_, _, _, HF2.out, rfl, HB2.out, HX.out, fun h => absurd h (by simp)⟩
     | true =>
       have HRK2 := Aside0.mk ((HYES.out HBD.out.symm).symm.trans HRK.out)
       have HI3 := Aside0.mk (HI2.out rfl)
       have HND2 := Aside0.mk (show (defM mk y).nodes = m.nodes from HNK.out)
       go_wp2_with fail
       go_roundg (n.f4.length - (kka + 1))
       case measure => omega
       case rel => exact ⟨kka + 1, defM mk y, addM Vk 1 (definesL y), by omega, by omega, by go_num, HB2, HX, B3, HI3, HRK2, HND2⟩
   · have hltza : ¬ (kka : Int) < (n.f4.length : Int) := by omega
     obtain rfl : kka = n.f4.length := by omega
     have HRF := Aside0.mk (show R = (none, mk, Vk) by rw [← HRK.out, List.drop_length]; rfl)
     have HF2 := Aside0.mk (show nodeR es ns m n = (if n.f3.any (unset Vk) = true then (-1, true, mk) else nodeE mk (firstUse (usesB mk Vk (mkM 1 n.f1) es ns) n.f4 0)) by rw [HF.out, HRF.out]; rfl)
     clear HF HRF HRK HD0
     have HOK2 := Aside0.mk (show NodesOk mk ns from fun s k h => HOK.out s k (by rw [← HNK.out]; exact h))
     clear HOK HNK HND
     have c3_0 := (blk_cell B3.out 0).trans rfl
     have c3_1 := (blk_cell B3.out 1).trans rfl
     have c3_2 := (blk_cell B3.out 2).trans rfl
     have c3_3 := (blk_cell B3.out 3).trans rfl
     have c3_4 := (blk_cell B3.out 4).trans rfl
     go_wp2_with fail
     clear c3_0 c3_1 c3_2 c3_3 c3_4
     go_loopg [39] n.f3.length (fun gg s_ wr => ∃ (kkb : Nat), kkb ≤ n.f3.length ∧ n.f3.length - kkb ≤ gg ∧ s_ = .int .i64 kkb ∧ Aside0 (Below w0.heap.size w0 wr) ∧ Aside0 (CKept w wr) ∧ Aside0 (wr.heap[g3]? = some (.cells #[.string n.f0, .slice A1 (n.f1).length c1, .slice A2 (n.f2).length c2, .slice A3 (n.f3).length c3, .slice A4 (n.f4).length c4] 35 (0, 0))) ∧ Aside0 (IAt w0.heap.size wr B I (.slice Ae es.length ce) (.slice An ns.length cn) mk (.string n.f0) (.slice A1 n.f1.length c1) (.slice A2 n.f2.length c2) (.slice A3 n.f3.length c3) (.slice A4 n.f4.length c4) Vk (mkM 1 n.f1)) ∧ Aside0 (∀ j, j < kkb → unset Vk (n.f3.getD j (⟨#[]⟩ : ByteArray)) = false))
     case atStart => exact ⟨0, Nat.zero_le _, by omega, rfl, HB, HX, B3, HI, ⟨fun j hj => absurd hj (Nat.not_lt_zero _)⟩⟩
     case round =>
       clear HB HX B3 HI
       obtain ⟨kkb, hkkb, hgkkb, rfl, HB, HX, B3, HI, NU⟩ := hrel
       have hmxb : n.f3.length ≤ 9223372036854775807 := (G3.out).2.1
       by_cases hltb : kkb < n.f3.length
       · have hltzb : (kkb : Int) < (n.f3.length : Int) := by omega
         have hany := any_getD_true n.f3 (unset Vk) (⟨#[]⟩ : ByteArray) kkb hltb
         obtain ⟨sad, scs, rfl, _, sK, scc⟩ := Kd.C_get G3.out (⟨#[]⟩ : ByteArray) (kkb : Int) (by omega) (by omega)
         obtain rfl := sK
         have sx0 := (HB.out.cell (World.block_lt_of_cell? w0 _ (scc 0 _ rfl))).trans (scc 0 _ rfl)
         simp only [show Kd.string.sz = 1 from rfl, Nat.mul_one, Nat.add_zero, Int.toNat_natCast] at sx0
         clear scc
         try simp only [Int.toNat_natCast] at sx0
         generalize Ys0 : n.f3.getD kkb (⟨#[]⟩ : ByteArray) = s at hany sx0
         have Ys := Aside0.mk Ys0; clear Ys0
         have HANY := Aside0.mk hany; clear hany
         have HGI := Aside0.mk (getI0 Vk s)
         have HUN := Aside0.mk (show unset Vk s = ((Vk s).getD 0 == 0) from rfl)
         generalize (Vk s).getD 0 = cv at HGI HUN
         have ci0 := (blk_cell HI.out.inn 0).trans rfl
         have ci1 := (blk_cell HI.out.inn 1).trans rfl
         have ci2 := (blk_cell HI.out.inn 2).trans rfl
         have ci3 := (blk_cell HI.out.inn 3).trans rfl
         have ci4 := (blk_cell HI.out.inn 4).trans rfl
         have ci5 := (blk_cell HI.out.inn 5).trans rfl
         have ci6 := (blk_cell HI.out.inn 6).trans rfl
         have ci7 := (blk_cell HI.out.inn 7).trans rfl
         cases hcv : (cv == 0) with
         | true =>
           have HF3 := Aside0.mk (show nodeR es ns m n = (-1, true, mk) by rw [HF2.out, if_pos (HANY.out (by rw [HUN.out]; exact hcv))])
           go_wp2_with (at_lookup; refine look_str rfl _ _ 58 rfl 9 3 hm1 hk _ (hz _) I.vars _ rfl HI.out.vars s rfl (.int .i64 cv) HGI.out ?_)
           go_ret2
           exact ⟨_, _, _, HF3.out, rfl, HB.out, HX.out, fun h => absurd h (by simp)⟩
         | false =>
           have HUS := Aside0.mk (show unset Vk s = false by rw [HUN.out]; exact hcv)
           go_wp2_with (at_lookup; refine look_str rfl _ _ 58 rfl 9 3 hm1 hk _ (hz _) I.vars _ rfl HI.out.vars s rfl (.int .i64 cv) HGI.out ?_)
           go_roundg (n.f3.length - (kkb + 1))
           case measure => omega
           case rel => exact ⟨kkb + 1, by omega, by omega, by go_num, HB, HX, B3, HI, ⟨upto_stepN NU.out Ys.out HUS.out⟩⟩
       · have hltzb : ¬ (kkb : Int) < (n.f3.length : Int) := by omega
         obtain rfl : kkb = n.f3.length := by omega
         have HF3 := Aside0.mk (show nodeR es ns m n = nodeE mk (firstUse (usesB mk Vk (mkM 1 n.f1) es ns) n.f4 0) by rw [HF2.out, any_no (l := n.f3) (q := unset Vk) (z := (⟨#[]⟩ : ByteArray)) NU.out]; rfl)
         clear HF2 NU
         have HU0 := Aside0.mk (show firstUse (usesB mk Vk (mkM 1 n.f1) es ns) (n.f4.drop 0) 0 = firstUse (usesB mk Vk (mkM 1 n.f1) es ns) n.f4 0 by rw [List.drop_zero])
         generalize firstUse (usesB mk Vk (mkM 1 n.f1) es ns) n.f4 0 = Q at HF3 HU0
         have hitem := fun (x : S47) (W : World) (csy : List Value) (hKx : k47.K w0 x csy) (hB : Below w0.heap.size w0 W) (hI : IAt w0.heap.size W B I (.slice Ae es.length ce) (.slice An ns.length cn) mk (.string n.f0) (.slice A1 n.f1.length c1) (.slice A2 n.f2.length c2) (.slice A3 n.f3.length c3) (.slice A4 n.f4.length c4) Vk (mkM 1 n.f1)) (hx : ItemEx made x) => sitem_calls es ns Ae An ce cn w0 w0.heap.size B I mk _ _ _ _ _ Vk (mkM 1 n.f1) made hE hN HOK2.out (onesOk_mk n.f1) x W csy hKx hB hI hx
         generalize usesB mk Vk (mkM 1 n.f1) es ns = U at hitem HU0
         have c3_0 := (blk_cell B3.out 0).trans rfl
         have c3_1 := (blk_cell B3.out 1).trans rfl
         have c3_2 := (blk_cell B3.out 2).trans rfl
         have c3_3 := (blk_cell B3.out 3).trans rfl
         have c3_4 := (blk_cell B3.out 4).trans rfl
         go_wp2_with fail
         clear c3_0 c3_1 c3_2 c3_3 c3_4
         go_loopg [54] n.f4.length (fun gg s_ wr => ∃ (kkc : Nat), kkc ≤ n.f4.length ∧ n.f4.length - kkc ≤ gg ∧ s_ = .int .i64 kkc ∧ Aside0 (Below w0.heap.size w0 wr) ∧ Aside0 (CKept w wr) ∧ Aside0 (IAt w0.heap.size wr B I (.slice Ae es.length ce) (.slice An ns.length cn) mk (.string n.f0) (.slice A1 n.f1.length c1) (.slice A2 n.f2.length c2) (.slice A3 n.f3.length c3) (.slice A4 n.f4.length c4) Vk (mkM 1 n.f1)) ∧ Aside0 (firstUse U (n.f4.drop kkc) kkc = Q))
         case atStart => exact ⟨0, Nat.zero_le _, by omega, rfl, HB, HX, HI, HU0⟩
         case round =>
           clear HB HX HI
           obtain ⟨kkc, hkkc, hgkkc, rfl, HB, HX, HI, HUK⟩ := hrel
           have hmxc : n.f4.length ≤ 9223372036854775807 := (G4.out).2.1
           by_cases hltc : kkc < n.f4.length
           · have hltzc : (kkc : Int) < (n.f4.length : Int) := by omega
             have hfit := HFIT.out.2 kkc hltc
             have hno := firstUse_no (U := U) (l := n.f4) (k := kkc) (y := n.f4.getD kkc z47) hltc rfl kkc
             have hyes := firstUse_yes (U := U) (l := n.f4) (k := kkc) (y := n.f4.getD kkc z47) hltc rfl kkc
             obtain ⟨yad, ycs, rfl, _, yK, ycc⟩ := Kd.C_get G4.out z47 (kkc : Int) (by omega) (by omega)
             have yK' := yK
             obtain ⟨yA0, yc0, yA4, yc4, yA5, yc5, yA6, yc6, rfl, yl0, yg0, yl4, yg4, yl5, yg5, yl6, yg6⟩ := k47_open yK'
             have yx0 := (HB.out.cell (World.block_lt_of_cell? w0 _ (ycc 0 _ rfl))).trans (ycc 0 _ rfl)
             have yx1 := (HB.out.cell (World.block_lt_of_cell? w0 _ (ycc 1 _ rfl))).trans (ycc 1 _ rfl)
             have yx2 := (HB.out.cell (World.block_lt_of_cell? w0 _ (ycc 2 _ rfl))).trans (ycc 2 _ rfl)
             have yx3 := (HB.out.cell (World.block_lt_of_cell? w0 _ (ycc 3 _ rfl))).trans (ycc 3 _ rfl)
             have yx4 := (HB.out.cell (World.block_lt_of_cell? w0 _ (ycc 4 _ rfl))).trans (ycc 4 _ rfl)
             have yx5 := (HB.out.cell (World.block_lt_of_cell? w0 _ (ycc 5 _ rfl))).trans (ycc 5 _ rfl)
             have yx6 := (HB.out.cell (World.block_lt_of_cell? w0 _ (ycc 6 _ rfl))).trans (ycc 6 _ rfl)
             rw [show (k47).sz = 7 from rfl, Nat.add_zero, Int.toNat_natCast] at yx0
             rw [show (k47).sz = 7 from rfl, Int.toNat_natCast, add_field _ _ 1 (by omega)] at yx1
             rw [show (k47).sz = 7 from rfl, Int.toNat_natCast, add_field _ _ 2 (by omega)] at yx2
             rw [show (k47).sz = 7 from rfl, Int.toNat_natCast, add_field _ _ 3 (by omega)] at yx3
             rw [show (k47).sz = 7 from rfl, Int.toNat_natCast, add_field _ _ 4 (by omega)] at yx4
             rw [show (k47).sz = 7 from rfl, Int.toNat_natCast, add_field _ _ 5 (by omega)] at yx5
             rw [show (k47).sz = 7 from rfl, Int.toNat_natCast, add_field _ _ 6 (by omega)] at yx6
             clear ycc
             try simp only [Int.toNat_natCast] at yx0 yx1 yx2 yx3 yx4 yx5 yx6 yK yl0 yg0 yl4 yg4 yl5 yg5 yl6 yg6
             generalize Yy0 : n.f4.getD kkc z47 = y at hfit hno hyes yx0 yx1 yx2 yx3 yx4 yx5 yx6 yK yl0 yg0 yl4 yg4 yl5 yg5 yl6 yg6
             have Yy := Aside0.mk Yy0; clear Yy0
             have yL0 := Aside0.mk yl0; have yG0 := Aside0.mk yg0; clear yl0 yg0
             have yL4 := Aside0.mk yl4; have yG4 := Aside0.mk yg4; clear yl4 yg4
             have yL5 := Aside0.mk yl5; have yG5 := Aside0.mk yg5; clear yl5 yg5
             have yL6 := Aside0.mk yl6; have yG6 := Aside0.mk yg6; clear yl6 yg6
             have HFI := Aside0.mk hfit; have HNO := Aside0.mk hno; have HYES := Aside0.mk hyes
             have hcall := fun (W : World) (hB : Below w0.heap.size w0 W) (hI : IAt w0.heap.size W B I (.slice Ae es.length ce) (.slice An ns.length cn) mk (.string n.f0) (.slice A1 n.f1.length c1) (.slice A2 n.f2.length c2) (.slice A3 n.f3.length c3) (.slice (some yad) n.f4.length c4) Vk (mkM 1 n.f1)) => hitem y W _ yK hB hI HFI.out.1
             skip
             clear hfit hno hyes yK hitem
             go_wp2_with ((with_reducible refine gate_store (t := 47) (p := 13) rfl ?_); refine store_whole rfl rfl 47 _ _ rfl wr.heap.size _ 47 rfl (blk_new _ _) _ rfl rfl rfl (by simp [Value.oneCell']) ?_; intro w2 hb2 hg2; replace HB := Aside0.mk (below_as HB.out hg2); replace HI := Aside0.mk (HI.out.as hg2); replace HX := Aside0.mk (HX.out.as hg2); obtain ⟨g13, hq_⟩ : ∃ g_, g_ = wr.heap.size := ⟨_, rfl⟩; rw [← hq_] at hb2; rw [← hq_]; have B13 := Aside0.mk hb2; clear hb2 hg2 hq_; have c13_0 := (blk_cell B13.out 0).trans rfl; have c13_1 := (blk_cell B13.out 1).trans rfl; have c13_2 := (blk_cell B13.out 2).trans rfl; have c13_3 := (blk_cell B13.out 3).trans rfl; have c13_4 := (blk_cell B13.out 4).trans rfl; have c13_5 := (blk_cell B13.out 5).trans rfl; have c13_6 := (blk_cell B13.out 6).trans rfl)
             refine (hcall _ HB.out (by exact HI.out)).mono ?_
             rintro e w8 ⟨rfl, hb⟩
             replace HI := Aside0.mk (HI.out.below hb)
             replace HX := Aside0.mk (HX.out.below hb)
             replace HB := Aside0.mk (below_step HB.out hb)
             clear hb hcall c13_0 c13_1 c13_2 c13_3 c13_4 c13_5 c13_6
             cases hub : itemUB U y with
             | false =>
               have HF4 := Aside0.mk (show nodeR es ns m n = ((kkc : Int), true, mk) by rw [HF3.out, ← HUK.out, HNO.out hub]; rfl)
               go_wp2_with fail
               go_ret2
               exact ⟨_, _, _, HF4.out, rfl, HB.out, HX.out, fun h => absurd h (by simp)⟩
             | true =>
               have HUK2 := Aside0.mk ((HYES.out hub).symm.trans HUK.out)
               go_wp2_with fail
               go_roundg (n.f4.length - (kkc + 1))
               case measure => omega
               case rel => exact ⟨kkc + 1, by omega, by omega, by go_num, HB, HX, HI, HUK2⟩
           · have hltzc : ¬ (kkc : Int) < (n.f4.length : Int) := by omega
             obtain rfl : kkc = n.f4.length := by omega
             have HF4 := Aside0.mk (show nodeR es ns m n = (0, false, mk) by rw [HF3.out, ← HUK.out, List.drop_length]; rfl)
             go_wp2_with fail
             go_ret2
             exact ⟨_, _, _, HF4.out, rfl, HB.out, HX.out, fun _ => HI.out.wat⟩
end Go.Proofs.YtggfnbnochmkdaaGreat
