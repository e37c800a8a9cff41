/- JOINED of 2 texts: The reference: all expressions of a node. The reference: Right. -/
import Derived.Test.YtggfnbnochmkdaaGreatQe
import Derived.Test.YtggfnbnochmkdaaGreatRa
import Derived.Test.YtggfnbnochmkdaaGreatTj
namespace Go.Proofs.YtggfnbnochmkdaaGreat
open Go Go.RowKit Go.Lib Go.Proofs.YtggfnbnochmkdaaGreatW.PrintWords Go.Proofs.YtggfnbnochmkdaaGreat.PScope
set_option maxRecDepth 100000
set_option linter.unusedSimpArgs false
set_option linter.unusedVariables false
def kRead {α : Type} (w0 : World) (d : Kd α) : Kd α where
 sz := d.sz
 E := []
 K := fun _ x cs => d.K w0 x cs
 M := fun _ _ _ x cs => d.K w0 x cs
 K_len := fun h => d.K_len h
 K_one := fun h => d.K_one h
 K_below := fun _ h => h
 K_of_M := fun h => h
 M_mono := fun _ h => h
 M_bound := fun h => h
 M_move := fun _ h => h
 M_lower := fun _ h => h
theorem kRead_C {α : Type} {d : Kd α} {w0 w1 : World} {A : Option Addr} {n : Nat} {xs : List α} (h : (kRead w0 d).C w1 A n xs) (hB : Below w0.heap.size w0 w1) : d.C w1 A n xs :=
 ⟨h.1, h.2.1, fun hn => by
   obtain ⟨ad, e, hh⟩ := h.2.2 hn
   exact ⟨ad, e, fun j q hj => by obtain ⟨cs, k1, k2, k3⟩ := hh j q hj; exact ⟨cs, k1, d.K_below hB k2, k3⟩⟩⟩
theorem lit1 {α : Type} {d : Kd α} {W : World} {g : Nat} {e : TypeId} {cs : List Value} {x : α} (h : W.heap[g]? = some (.cells cs.toArray e (0, 0))) (hK : d.K W x cs) : d.C W (some ⟨g, 0, none⟩) 1 [x] := by
 refine ⟨rfl, by decide, fun _ => ⟨_, rfl, fun j p hj => ?_⟩⟩
 cases j with
 | succ j => simp at hj
 | zero =>
   simp at hj
   subst hj
   refine ⟨cs, d.K_len hK, hK, fun i u hu => ?_⟩
   rw [Nat.zero_mul, Nat.zero_add, add_plain, blk_cell h]
   simpa using hu
theorem infoEx : (Tryz.prog.info? 42).map (fun i => (i.zero, i.size, i.bytes)) = some (some (.agg #[.int .i64 0, .string ⟨#[]⟩, .int .i64 0, .slice none 0 0, .slice none 0 0]), 5, 80) := by kernel_rfl
def ExsPost (l : List S42) (w : World) (e : Ending) (w' : World) : Prop := ∃ A c, e = .returned (.slice A l.length c) ∧ l.length ≤ c ∧ k42.C w' A l.length l ∧ Below w.heap.size w w'
set_option maxHeartbeats 16000000 in
theorem rexprs_calls (n : S35) (w : World) (csx : List Value) (hK : k35.K w n csx) (hlen : (ndEx n).length ≤ 4194304) :
   Calls Tryz.prog 19 #[.agg csx.toArray] w (ExsPost (ndEx n) w) := by
 obtain ⟨A1, c1, A2, c2, A3, c3, A4, c4, rfl, l1, g1, l2, g2, l3, g3, l4, g4⟩ := k35_open hK
 have L1 := Aside0.mk l1; have G1 := Aside0.mk g1; clear l1 g1
 have L2 := Aside0.mk l2; have G2 := Aside0.mk g2; clear l2 g2
 have L3 := Aside0.mk l3; have G3 := Aside0.mk g3; clear l3 g3
 have L4 := Aside0.mk l4; have G4 := Aside0.mk g4; clear l4 g4
 clear hK
 have HB := Aside0.mk (Below.refl w.heap.size w)
 have HUL := Aside0.mk Tryz.underlying40
 have hu0 := Tryz.underlying42
 have hu1 := Tryz.underlying44
 have hu2 := Tryz.underlying93
 have hu3 := Tryz.underlying65
 have hu4 := Tryz.underlying47
 have hu5 := Tryz.underlying35
 have FI0 := Aside0.mk (show ([] : List S42) ++ n.f4.flatMap itEx = ndEx n from rfl)
 have HLEN := Aside0.mk hlen; clear hlen
 generalize ndEx n = FIN at FI0 HLEN ⊢
 go_enter Tryz.func19, Tryz.ntmps19
 go_wp2_with ((with_reducible refine gate_dst (N := 1) rfl ?_); refine box_event ?hg (N := 1) ?hd (cs := #[.string n.f0, .slice A1 (n.f1).length c1, .slice A2 (n.f2).length c2, .slice A3 (n.f3).length c3, .slice A4 (n.f4).length c4]) (t := 35) ?hr ?_; (case hd => rfl); (case hg => rfl); (case hr => first | (go_simp; done) | (go_simp; rfl)); intro g1 hg_ w_ hbox hb; have B1 := Aside0.mk hbox; have LB1 := Aside0.mk ((by rw [hg_]; exact below_size HB.out) : w.heap.size ≤ g1); replace HB := Aside0.mk (below_step HB.out hb); clear hb hbox hg_; have c1_0 := (blk_cell B1.out 0).trans rfl; have c1_1 := (blk_cell B1.out 1).trans rfl; have c1_2 := (blk_cell B1.out 2).trans rfl; have c1_3 := (blk_cell B1.out 3).trans rfl; have c1_4 := (blk_cell B1.out 4).trans rfl)
 clear c1_0 c1_1 c1_2 c1_3 c1_4
 have FI := FI0; clear FI0
 go_loopg [3, 4] n.f4.length (fun gg s3 s_ wr => ∃ (kka : Nat) (v : Value) (pre : List S42), kka ≤ n.f4.length ∧ n.f4.length - kka ≤ gg ∧ s_ = .int .i64 kka ∧ s3 = v ∧ Aside0 (Below w.heap.size w wr) ∧ Aside0 ((kRead w k42).R 42 wr w.heap.size (fun _ => True) v pre) ∧ Aside0 (wr.heap[g1]? = some (.cells #[.string n.f0, .slice A1 (n.f1).length c1, .slice A2 (n.f2).length c2, .slice A3 (n.f3).length c3, .slice A4 (n.f4).length c4] 35 (0, 0))) ∧ Aside0 (pre ++ ((n.f4.drop kka).flatMap itEx) = FIN))
 case atStart => exact ⟨0, _, _, Nat.zero_le _, by omega, rfl, rfl, HB, ⟨Kd.R_nil _ _ _ _ _⟩, B1, ⟨by rw [List.drop_zero]; exact FI.out⟩⟩
 case round =>
   clear HB FI B1
   obtain ⟨kka, v, pre, hkka, hgka, rfl, rfl, HB, HO, B1, FI⟩ := hrel
   have hmxa : n.f4.length ≤ 9223372036854775807 := (G4.out).2.1
   by_cases hlta : kka < n.f4.length
   · have hltza : (kka : Int) < (n.f4.length : Int) := by omega
     obtain ⟨yad, ycs, rfl, _, yK, ycc⟩ := Kd.C_get G4.out z47 (kka : Int) (by omega) (by omega)
     have yK' := yK
     obtain ⟨yA0, yc0, yA4, yc4, yA5, yc5, yA6, yc6, rfl, yl0, yg0, yl4, yg4, yl5, yg5, yl6, yg6⟩ := k47_open yK'
     have yx0 := (HB.out.cell (World.block_lt_of_cell? w _ (ycc 0 _ rfl))).trans (ycc 0 _ rfl)
     have yx1 := (HB.out.cell (World.block_lt_of_cell? w _ (ycc 1 _ rfl))).trans (ycc 1 _ rfl)
     have yx2 := (HB.out.cell (World.block_lt_of_cell? w _ (ycc 2 _ rfl))).trans (ycc 2 _ rfl)
     have yx3 := (HB.out.cell (World.block_lt_of_cell? w _ (ycc 3 _ rfl))).trans (ycc 3 _ rfl)
     have yx4 := (HB.out.cell (World.block_lt_of_cell? w _ (ycc 4 _ rfl))).trans (ycc 4 _ rfl)
     have yx5 := (HB.out.cell (World.block_lt_of_cell? w _ (ycc 5 _ rfl))).trans (ycc 5 _ rfl)
     have yx6 := (HB.out.cell (World.block_lt_of_cell? w _ (ycc 6 _ rfl))).trans (ycc 6 _ rfl)
     rw [show (k47).sz = 7 from rfl, Nat.add_zero, Int.toNat_natCast] at yx0
     rw [show (k47).sz = 7 from rfl, Int.toNat_natCast, add_field _ _ 1 (by omega)] at yx1
     rw [show (k47).sz = 7 from rfl, Int.toNat_natCast, add_field _ _ 2 (by omega)] at yx2
     rw [show (k47).sz = 7 from rfl, Int.toNat_natCast, add_field _ _ 3 (by omega)] at yx3
     rw [show (k47).sz = 7 from rfl, Int.toNat_natCast, add_field _ _ 4 (by omega)] at yx4
     rw [show (k47).sz = 7 from rfl, Int.toNat_natCast, add_field _ _ 5 (by omega)] at yx5
     rw [show (k47).sz = 7 from rfl, Int.toNat_natCast, add_field _ _ 6 (by omega)] at yx6
     clear ycc
     try simp only [Int.toNat_natCast] at yx0 yx1 yx2 yx3 yx4 yx5 yx6 yK yl0 yg0 yl4 yg4 yl5 yg5 yl6 yg6
     generalize Yy0 : n.f4.getD kka z47 = y at yx0 yx1 yx2 yx3 yx4 yx5 yx6 yK yl0 yg0 yl4 yg4 yl5 yg5 yl6 yg6
     have Yy := Aside0.mk Yy0; clear Yy0
     have yL0 := Aside0.mk yl0; have yG0 := Aside0.mk yg0; clear yl0 yg0
     have yL4 := Aside0.mk yl4; have yG4 := Aside0.mk yg4; clear yl4 yg4
     have yL5 := Aside0.mk yl5; have yG5 := Aside0.mk yg5; clear yl5 yg5
     have yL6 := Aside0.mk yl6; have yG6 := Aside0.mk yg6; clear yl6 yg6
     have DRa := drop_getD n.f4 z47 kka hlta
     rw [Yy.out] at DRa
     have FI1 := FI.out
     rw [DRa] at FI1
     have FI2 := Aside0.mk FI1
     clear FI FI1 DRa
     clear yK
     have c1_0 := (blk_cell B1.out 0).trans rfl
     have c1_1 := (blk_cell B1.out 1).trans rfl
     have c1_2 := (blk_cell B1.out 2).trans rfl
     have c1_3 := (blk_cell B1.out 3).trans rfl
     have c1_4 := (blk_cell B1.out 4).trans rfl
     by_cases e0 : y.f1.length = 0
     · have t0 : ((y.f1.length : Int) == 0) = true := by rw [e0]; rfl
       replace FI2 := Aside0.mk (show pre ++ y.f0.f1 :: (n.f4.drop (kka + 1)).flatMap itEx = FIN by have h_ := FI2.out; rw [List.flatMap_cons, itEx, if_pos e0, List.length_eq_zero_iff.1 e0, List.flatMap_nil, List.append_nil, List.cons_append, List.nil_append] at h_; exact h_)
       have hz := (show ((y.f1.length : Nat) : Int) = 0 by omega)
       have HZ := Aside0.mk hz; clear hz e0
       have FI3 := FI2.out
       have HL1 := Aside0.mk (show (pre.length + 1) * 80 ≤ 140737488355328 by have h_ := congrArg List.length FI3; have h2_ := HLEN.out; simp only [List.length_append, List.length_cons] at h_; omega)
       rw [show ∀ r_, pre ++ y.f0.f1 :: r_ = (pre ++ [y.f0.f1]) ++ r_ by intro r_; rw [List.append_assoc]; rfl] at FI3
       have FI := Aside0.mk FI3; clear FI2 FI3
       have HKX := Aside0.mk (k42_mk w y.f0.f1 yL4.out yG4.out yL5.out yG5.out)
       obtain ⟨Ao, co, rfl⟩ := Kd.R_slice HO.out
       go_wp2_with (first | ((with_reducible refine gate_store (t := 47) (p := 5) rfl ?_); refine store_whole rfl rfl 47 _ _ rfl wr.heap.size _ 47 rfl (blk_new _ _) _ rfl rfl rfl (by simp [Value.oneCell']) ?_; intro w2 hb2 hg2; replace B1 := Aside0.mk (blk_as B1.out hg2); replace HB := Aside0.mk (below_as HB.out hg2); replace HO := Aside0.mk (R_as HO.out hg2); obtain ⟨g5, hq_⟩ : ∃ g_, g_ = wr.heap.size := ⟨_, rfl⟩; rw [← hq_] at hb2; rw [← hq_]; have B5 := Aside0.mk hb2; clear hb2 hg2 hq_; have c5_0 := (blk_cell B5.out 0).trans rfl; have c5_1 := (blk_cell B5.out 1).trans rfl; have c5_2 := (blk_cell B5.out 2).trans rfl; have c5_3 := (blk_cell B5.out 3).trans rfl; have c5_4 := (blk_cell B5.out 4).trans rfl; have c5_5 := (blk_cell B5.out 5).trans rfl; have c5_6 := (blk_cell B5.out 6).trans rfl) | (at_builtin; refine Kd.R_append_rows (kRead w k42) (Rr := k42.K w) (w0 := w) w.heap.size rfl _ _ 40 42 (.agg #[.int .i64 0, .string ⟨#[]⟩, .int .i64 0, .slice none 0 0, .slice none 0 0]) 80 rfl HUL.out infoEx rfl (by show 0 < 5; decide) (by omega) (.slice Ao pre.length co) pre [y.f0.f1] (some ⟨w2.heap.size, 0, none⟩) 1 1 (fun _ => True) (fun _ => False) rfl rfl ?aO ?aR (fun _ _ h => h) (fun _ h => h.elim) ?aF ?aB ?aS ?aL ?_; (case aO => exact (Kd.R_below HO.out (below_alloc (Below.refl _ _) _))); (case aR => exact lit1 (d := kRead w k42) (blk_new w2 _) HKX.out); (case aF => exact (fun _ _ => trivial)); (case aB => exact (below_alloc HB.out _)); (case aS => exact ((below_alloc HB.out _)).size); (case aL => exact HL1.out); intro v1 w6 ho_ hb_ hg_ hat_; have HO6 := Aside0.mk ho_; have HB6 := Aside0.mk hb_; have B16 := Aside0.mk (blk_apart (Kd.R_below HO.out (below_alloc (Below.refl _ _) _)) hg_ (blk_alloc B1.out _) (show (35 : Nat) ≠ 42 by decide)); have B56 := Aside0.mk (blk_apart (Kd.R_below HO.out (below_alloc (Below.refl _ _) _)) hg_ (blk_alloc B5.out _) (show (47 : Nat) ≠ 42 by decide)); clear ho_ hb_ hg_ hat_))
       clear yx0 yx1 yx2 yx3 yx4 yx5 yx6 c1_0 c1_1 c1_2 c1_3 c1_4 c5_0 c5_1 c5_2 c5_3 c5_4 c5_5 c5_6
       clear HB HO HL1 HKX B1 B5
       have HB := HB6; have HO := HO6; have B1 := B16; have B5 := B56; clear HB6 HO6 B16 B56
       have c5_0 := (blk_cell B5.out 0).trans rfl
       have c5_1 := (blk_cell B5.out 1).trans rfl
       have c5_2 := (blk_cell B5.out 2).trans rfl
       have c5_3 := (blk_cell B5.out 3).trans rfl
       have c5_4 := (blk_cell B5.out 4).trans rfl
       have c5_5 := (blk_cell B5.out 5).trans rfl
       have c5_6 := (blk_cell B5.out 6).trans rfl
       rw [show y.f1.length = 0 by have := HZ.out; omega] at c5_6
       go_wp2_with fail
       refine wp_loop_rounds 1 ?_
       rw [rounds_succ]
       go_wp2_with fail
       clear B5 c5_0 c5_1 c5_2 c5_3 c5_4 c5_5 c5_6
       go_roundg (n.f4.length - (kka + 1))
       case measure => omega
       case rel => exact ⟨kka + 1, _, _, by omega, by omega, by go_num, rfl, HB, HO, B1, FI⟩
     have t0 : ((y.f1.length : Int) == 0) = false := beq_eq_false_iff_ne.2 (by omega)
     have h_ := FI2.out
     rw [List.flatMap_cons, itEx, if_neg e0, List.nil_append] at h_
     have FI := Aside0.mk h_
     clear h_
     clear FI2 e0
     go_wp2_with ((with_reducible refine gate_store (t := 47) (p := 5) rfl ?_); refine store_whole rfl rfl 47 _ _ rfl wr.heap.size _ 47 rfl (blk_new _ _) _ rfl rfl rfl (by simp [Value.oneCell']) ?_; intro w2 hb2 hg2; replace B1 := Aside0.mk (blk_as B1.out hg2); replace HB := Aside0.mk (below_as HB.out hg2); replace HO := Aside0.mk (R_as HO.out hg2); obtain ⟨g5, hq_⟩ : ∃ g_, g_ = wr.heap.size := ⟨_, rfl⟩; rw [← hq_] at hb2; rw [← hq_]; have B5 := Aside0.mk hb2; clear hb2 hg2 hq_; have c5_0 := (blk_cell B5.out 0).trans rfl; have c5_1 := (blk_cell B5.out 1).trans rfl; have c5_2 := (blk_cell B5.out 2).trans rfl; have c5_3 := (blk_cell B5.out 3).trans rfl; have c5_4 := (blk_cell B5.out 4).trans rfl; have c5_5 := (blk_cell B5.out 5).trans rfl; have c5_6 := (blk_cell B5.out 6).trans rfl)
     clear yx0 yx1 yx2 yx3 yx4 yx5 yx6 c1_0 c1_1 c1_2 c1_3 c1_4 c5_0 c5_1 c5_2 c5_3 c5_4 c5_5 c5_6
     go_loopg [3, 6] y.f1.length (fun gg s3 s_ wr => ∃ (kkb : Nat) (v : Value) (pre : List S42), kkb ≤ y.f1.length ∧ y.f1.length - kkb ≤ gg ∧ s_ = .int .i64 kkb ∧ s3 = v ∧ Aside0 (Below w.heap.size w wr) ∧ Aside0 ((kRead w k42).R 42 wr w.heap.size (fun _ => True) v pre) ∧ Aside0 (wr.heap[g1]? = some (.cells #[.string n.f0, .slice A1 (n.f1).length c1, .slice A2 (n.f2).length c2, .slice A3 (n.f3).length c3, .slice (some yad) (n.f4).length c4] 35 (0, 0))) ∧ Aside0 (wr.heap[g5]? = some (.cells #[.slice yA0 (y.f0.f0).length yc0, .int .i64 y.f0.f1.f0, .string y.f0.f1.f1, .int .i64 y.f0.f1.f2, .slice yA4 (y.f0.f1.f3).length yc4, .slice yA5 (y.f0.f1.f4).length yc5, .slice yA6 (y.f1).length yc6] 47 (0, 0))) ∧ Aside0 (pre ++ ((y.f1.drop kkb).flatMap stEx ++ (n.f4.drop (kka + 1)).flatMap itEx) = FIN))
     case atStart => exact ⟨0, _, _, Nat.zero_le _, by omega, rfl, rfl, HB, HO, B1, B5, ⟨by rw [List.drop_zero]; exact FI.out⟩⟩
     case round =>
       clear HB FI HO B1 B5
       obtain ⟨kkb, v, pre, hkkb, hgkb, rfl, rfl, HB, HO, B1, B5, FI⟩ := hrel
       have hmxb : y.f1.length ≤ 9223372036854775807 := (yG6.out).2.1
       by_cases hltb : kkb < y.f1.length
       · have hltzb : (kkb : Int) < (y.f1.length : Int) := by omega
         obtain ⟨sad, scs, rfl, _, sK, scc⟩ := Kd.C_get yG6.out z65 (kkb : Int) (by omega) (by omega)
         have sK' := sK
         obtain ⟨sA1, sc1, sA2, sc2, rfl, sl1, sg1, sl2, sg2⟩ := k65_open sK'
         have sx0 := ((Below.refl w.heap.size w).cell (World.block_lt_of_cell? w _ (scc 0 _ rfl))).trans (scc 0 _ rfl)
         have sx1 := ((Below.refl w.heap.size w).cell (World.block_lt_of_cell? w _ (scc 1 _ rfl))).trans (scc 1 _ rfl)
         have sx2 := ((Below.refl w.heap.size w).cell (World.block_lt_of_cell? w _ (scc 2 _ rfl))).trans (scc 2 _ rfl)
         rw [show (k65).sz = 3 from rfl, Nat.add_zero, Int.toNat_natCast] at sx0
         rw [show (k65).sz = 3 from rfl, Int.toNat_natCast, add_field _ _ 1 (by omega)] at sx1
         rw [show (k65).sz = 3 from rfl, Int.toNat_natCast, add_field _ _ 2 (by omega)] at sx2
         clear scc
         try simp only [Int.toNat_natCast] at sx0 sx1 sx2 sK sl1 sg1 sl2 sg2
         generalize Ys0 : y.f1.getD kkb z65 = s at sx0 sx1 sx2 sK sl1 sg1 sl2 sg2
         have Ys := Aside0.mk Ys0; clear Ys0
         have sL1 := Aside0.mk sl1; have sG1 := Aside0.mk sg1; clear sl1 sg1
         have sL2 := Aside0.mk sl2; have sG2 := Aside0.mk sg2; clear sl2 sg2
         have DRb := drop_getD y.f1 z65 kkb hltb
         rw [Ys.out] at DRb
         have FI1 := FI.out
         rw [DRb] at FI1
         have FI2 := Aside0.mk FI1
         clear FI FI1 DRb
         have HX1 := Aside0.mk sx1; have HX2 := Aside0.mk sx2
         clear sx0 sx1 sx2 sK
         have h_ := FI2.out
         rw [List.flatMap_cons, stEx, List.append_assoc, List.append_assoc] at h_
         have FI := Aside0.mk h_
         clear h_
         clear FI2
         have sy1 := (HB.out.cell (World.block_lt_of_cell? w _ HX1.out)).trans HX1.out
         have sy2 := (HB.out.cell (World.block_lt_of_cell? w _ HX2.out)).trans HX2.out
         have c5_0 := (blk_cell B5.out 0).trans rfl
         have c5_1 := (blk_cell B5.out 1).trans rfl
         have c5_2 := (blk_cell B5.out 2).trans rfl
         have c5_3 := (blk_cell B5.out 3).trans rfl
         have c5_4 := (blk_cell B5.out 4).trans rfl
         have c5_5 := (blk_cell B5.out 5).trans rfl
         have c5_6 := (blk_cell B5.out 6).trans rfl
         go_wp2_with fail
         clear sy1 sy2 c5_0 c5_1 c5_2 c5_3 c5_4 c5_5 c5_6
         go_loopg [3, 7] s.f1.length (fun gg s3 s_ wr => ∃ (kkc : Nat) (v : Value) (pre : List S42), kkc ≤ s.f1.length ∧ s.f1.length - kkc ≤ gg ∧ s_ = .int .i64 kkc ∧ s3 = v ∧ Aside0 (Below w.heap.size w wr) ∧ Aside0 ((kRead w k42).R 42 wr w.heap.size (fun _ => True) v pre) ∧ Aside0 (wr.heap[g1]? = some (.cells #[.string n.f0, .slice A1 (n.f1).length c1, .slice A2 (n.f2).length c2, .slice A3 (n.f3).length c3, .slice (some yad) (n.f4).length c4] 35 (0, 0))) ∧ Aside0 (wr.heap[g5]? = some (.cells #[.slice yA0 (y.f0.f0).length yc0, .int .i64 y.f0.f1.f0, .string y.f0.f1.f1, .int .i64 y.f0.f1.f2, .slice yA4 (y.f0.f1.f3).length yc4, .slice yA5 (y.f0.f1.f4).length yc5, .slice (some sad) (y.f1).length yc6] 47 (0, 0))) ∧ Aside0 (pre ++ ((s.f1.drop kkc).map (fun q => q.f1) ++ (s.f2.map (fun w => w.f0) ++ ((y.f1.drop (kkb + 1)).flatMap stEx ++ (n.f4.drop (kka + 1)).flatMap itEx))) = FIN))
         case atStart => exact ⟨0, _, _, Nat.zero_le _, by omega, rfl, rfl, HB, HO, B1, B5, ⟨by rw [List.drop_zero]; exact FI.out⟩⟩
         case round =>
           clear HB FI HO B1 B5
           obtain ⟨kkc, v, pre, hkkc, hgkc, rfl, rfl, HB, HO, B1, B5, FI⟩ := hrel
           have hmxc : s.f1.length ≤ 9223372036854775807 := (sG1.out).2.1
           by_cases hltc : kkc < s.f1.length
           · have hltzc : (kkc : Int) < (s.f1.length : Int) := by omega
             obtain ⟨qad, qcs, rfl, _, qK, qcc⟩ := Kd.C_get sG1.out z44 (kkc : Int) (by omega) (by omega)
             have qK' := qK
             obtain ⟨qA0, qc0, qA4, qc4, qA5, qc5, rfl, ql0, qg0, ql4, qg4, ql5, qg5⟩ := k44_open qK'
             have qx0 := (HB.out.cell (World.block_lt_of_cell? w _ (qcc 0 _ rfl))).trans (qcc 0 _ rfl)
             have qx1 := (HB.out.cell (World.block_lt_of_cell? w _ (qcc 1 _ rfl))).trans (qcc 1 _ rfl)
             have qx2 := (HB.out.cell (World.block_lt_of_cell? w _ (qcc 2 _ rfl))).trans (qcc 2 _ rfl)
             have qx3 := (HB.out.cell (World.block_lt_of_cell? w _ (qcc 3 _ rfl))).trans (qcc 3 _ rfl)
             have qx4 := (HB.out.cell (World.block_lt_of_cell? w _ (qcc 4 _ rfl))).trans (qcc 4 _ rfl)
             have qx5 := (HB.out.cell (World.block_lt_of_cell? w _ (qcc 5 _ rfl))).trans (qcc 5 _ rfl)
             rw [show (k44).sz = 6 from rfl, Nat.add_zero, Int.toNat_natCast] at qx0
             rw [show (k44).sz = 6 from rfl, Int.toNat_natCast, add_field _ _ 1 (by omega)] at qx1
             rw [show (k44).sz = 6 from rfl, Int.toNat_natCast, add_field _ _ 2 (by omega)] at qx2
             rw [show (k44).sz = 6 from rfl, Int.toNat_natCast, add_field _ _ 3 (by omega)] at qx3
             rw [show (k44).sz = 6 from rfl, Int.toNat_natCast, add_field _ _ 4 (by omega)] at qx4
             rw [show (k44).sz = 6 from rfl, Int.toNat_natCast, add_field _ _ 5 (by omega)] at qx5
             clear qcc
             try simp only [Int.toNat_natCast] at qx0 qx1 qx2 qx3 qx4 qx5 qK ql0 qg0 ql4 qg4 ql5 qg5
             generalize Yq0 : s.f1.getD kkc z44 = q at qx0 qx1 qx2 qx3 qx4 qx5 qK ql0 qg0 ql4 qg4 ql5 qg5
             have Yq := Aside0.mk Yq0; clear Yq0
             have qL0 := Aside0.mk ql0; have qG0 := Aside0.mk qg0; clear ql0 qg0
             have qL4 := Aside0.mk ql4; have qG4 := Aside0.mk qg4; clear ql4 qg4
             have qL5 := Aside0.mk ql5; have qG5 := Aside0.mk qg5; clear ql5 qg5
             have DRc := drop_getD s.f1 z44 kkc hltc
             rw [Yq.out] at DRc
             have FI1 := FI.out
             rw [DRc] at FI1
             have FI2 := Aside0.mk FI1
             clear FI FI1 DRc
             replace FI2 := Aside0.mk (show pre ++ q.f1 :: ((s.f1.drop (kkc + 1)).map (fun q => q.f1) ++ (s.f2.map (fun w => w.f0) ++ ((y.f1.drop (kkb + 1)).flatMap stEx ++ (n.f4.drop (kka + 1)).flatMap itEx))) = FIN from FI2.out)
             have FI3 := FI2.out
             have HL1 := Aside0.mk (show (pre.length + 1) * 80 ≤ 140737488355328 by have h_ := congrArg List.length FI3; have h2_ := HLEN.out; simp only [List.length_append, List.length_cons] at h_; omega)
             rw [show ∀ r_, pre ++ q.f1 :: r_ = (pre ++ [q.f1]) ++ r_ by intro r_; rw [List.append_assoc]; rfl] at FI3
             have FI := Aside0.mk FI3; clear FI2 FI3
             have HKX := Aside0.mk (k42_mk w q.f1 qL4.out qG4.out qL5.out qG5.out)
             obtain ⟨Ao, co, rfl⟩ := Kd.R_slice HO.out
             clear qK
             have sy1 := (HB.out.cell (World.block_lt_of_cell? w _ HX1.out)).trans HX1.out
             have sy2 := (HB.out.cell (World.block_lt_of_cell? w _ HX2.out)).trans HX2.out
             have c5_0 := (blk_cell B5.out 0).trans rfl
             have c5_1 := (blk_cell B5.out 1).trans rfl
             have c5_2 := (blk_cell B5.out 2).trans rfl
             have c5_3 := (blk_cell B5.out 3).trans rfl
             have c5_4 := (blk_cell B5.out 4).trans rfl
             have c5_5 := (blk_cell B5.out 5).trans rfl
             have c5_6 := (blk_cell B5.out 6).trans rfl
             go_wp2_with (at_builtin; refine Kd.R_append_rows (kRead w k42) (Rr := k42.K w) (w0 := w) w.heap.size rfl _ _ 40 42 (.agg #[.int .i64 0, .string ⟨#[]⟩, .int .i64 0, .slice none 0 0, .slice none 0 0]) 80 rfl HUL.out infoEx rfl (by show 0 < 5; decide) (by omega) (.slice Ao pre.length co) pre [q.f1] (some ⟨wr.heap.size, 0, none⟩) 1 1 (fun _ => True) (fun _ => False) rfl rfl ?aO ?aR (fun _ _ h => h) (fun _ h => h.elim) ?aF ?aB ?aS ?aL ?_; (case aO => exact (Kd.R_below HO.out (below_alloc (Below.refl _ _) _))); (case aR => exact lit1 (d := kRead w k42) (blk_new wr _) HKX.out); (case aF => exact (fun _ _ => trivial)); (case aB => exact (below_alloc HB.out _)); (case aS => exact ((below_alloc HB.out _)).size); (case aL => exact HL1.out); intro v1 w6 ho_ hb_ hg_ hat_; have HO6 := Aside0.mk ho_; have HB6 := Aside0.mk hb_; have B16 := Aside0.mk (blk_apart (Kd.R_below HO.out (below_alloc (Below.refl _ _) _)) hg_ (blk_alloc B1.out _) (show (35 : Nat) ≠ 42 by decide)); have B56 := Aside0.mk (blk_apart (Kd.R_below HO.out (below_alloc (Below.refl _ _) _)) hg_ (blk_alloc B5.out _) (show (47 : Nat) ≠ 42 by decide)); clear ho_ hb_ hg_ hat_)
             clear sy1 sy2 qx0 qx1 qx2 qx3 qx4 qx5 c5_0 c5_1 c5_2 c5_3 c5_4 c5_5 c5_6
             clear HB HO HL1 HKX B1 B5
             have HB := HB6; have HO := HO6; have B1 := B16; have B5 := B56; clear HB6 HO6 B16 B56
             go_roundg (s.f1.length - (kkc + 1))
             case measure => omega
             case rel => exact ⟨kkc + 1, _, _, by omega, by omega, by go_num, rfl, HB, HO, B1, B5, FI⟩
           · have hltzc : ¬ (kkc : Int) < (s.f1.length : Int) := by omega
             obtain rfl : kkc = s.f1.length := by omega
             have FI1 := FI.out
             rw [List.drop_length] at FI1
             have FI2 := Aside0.mk FI1
             clear FI FI1
             have h_ := FI2.out
             rw [List.map_nil, List.nil_append] at h_
             have FI := Aside0.mk h_
             clear h_
             clear FI2
             have sy1 := (HB.out.cell (World.block_lt_of_cell? w _ HX1.out)).trans HX1.out
             have sy2 := (HB.out.cell (World.block_lt_of_cell? w _ HX2.out)).trans HX2.out
             have c5_0 := (blk_cell B5.out 0).trans rfl
             have c5_1 := (blk_cell B5.out 1).trans rfl
             have c5_2 := (blk_cell B5.out 2).trans rfl
             have c5_3 := (blk_cell B5.out 3).trans rfl
             have c5_4 := (blk_cell B5.out 4).trans rfl
             have c5_5 := (blk_cell B5.out 5).trans rfl
             have c5_6 := (blk_cell B5.out 6).trans rfl
             go_wp2_with fail
             clear sy1 sy2 c5_0 c5_1 c5_2 c5_3 c5_4 c5_5 c5_6
             go_loopg [3, 8] s.f2.length (fun gg s3 s_ wr => ∃ (kkd : Nat) (v : Value) (pre : List S42), kkd ≤ s.f2.length ∧ s.f2.length - kkd ≤ gg ∧ s_ = .int .i64 kkd ∧ s3 = v ∧ Aside0 (Below w.heap.size w wr) ∧ Aside0 ((kRead w k42).R 42 wr w.heap.size (fun _ => True) v pre) ∧ Aside0 (wr.heap[g1]? = some (.cells #[.string n.f0, .slice A1 (n.f1).length c1, .slice A2 (n.f2).length c2, .slice A3 (n.f3).length c3, .slice (some yad) (n.f4).length c4] 35 (0, 0))) ∧ Aside0 (wr.heap[g5]? = some (.cells #[.slice yA0 (y.f0.f0).length yc0, .int .i64 y.f0.f1.f0, .string y.f0.f1.f1, .int .i64 y.f0.f1.f2, .slice yA4 (y.f0.f1.f3).length yc4, .slice yA5 (y.f0.f1.f4).length yc5, .slice (some sad) (y.f1).length yc6] 47 (0, 0))) ∧ Aside0 (pre ++ ((s.f2.drop kkd).map (fun w => w.f0) ++ ((y.f1.drop (kkb + 1)).flatMap stEx ++ (n.f4.drop (kka + 1)).flatMap itEx)) = FIN))
             case atStart => exact ⟨0, _, _, Nat.zero_le _, by omega, rfl, rfl, HB, HO, B1, B5, ⟨by rw [List.drop_zero]; exact FI.out⟩⟩
             case round =>
               clear HB FI HO B1 B5
               obtain ⟨kkd, v, pre, hkkd, hgkd, rfl, rfl, HB, HO, B1, B5, FI⟩ := hrel
               have hmxd : s.f2.length ≤ 9223372036854775807 := (sG2.out).2.1
               by_cases hltd : kkd < s.f2.length
               · have hltzd : (kkd : Int) < (s.f2.length : Int) := by omega
                 obtain ⟨vad, vcs, rfl, _, vK, vcc⟩ := Kd.C_get sG2.out z93 (kkd : Int) (by omega) (by omega)
                 have vK' := vK
                 obtain ⟨vA3, vc3, vA4, vc4, rfl, vl3, vg3, vl4, vg4⟩ := k93_open vK'
                 have vx0 := (HB.out.cell (World.block_lt_of_cell? w _ (vcc 0 _ rfl))).trans (vcc 0 _ rfl)
                 have vx1 := (HB.out.cell (World.block_lt_of_cell? w _ (vcc 1 _ rfl))).trans (vcc 1 _ rfl)
                 have vx2 := (HB.out.cell (World.block_lt_of_cell? w _ (vcc 2 _ rfl))).trans (vcc 2 _ rfl)
                 have vx3 := (HB.out.cell (World.block_lt_of_cell? w _ (vcc 3 _ rfl))).trans (vcc 3 _ rfl)
                 have vx4 := (HB.out.cell (World.block_lt_of_cell? w _ (vcc 4 _ rfl))).trans (vcc 4 _ rfl)
                 have vx5 := (HB.out.cell (World.block_lt_of_cell? w _ (vcc 5 _ rfl))).trans (vcc 5 _ rfl)
                 rw [show (k93).sz = 6 from rfl, Nat.add_zero, Int.toNat_natCast] at vx0
                 rw [show (k93).sz = 6 from rfl, Int.toNat_natCast, add_field _ _ 1 (by omega)] at vx1
                 rw [show (k93).sz = 6 from rfl, Int.toNat_natCast, add_field _ _ 2 (by omega)] at vx2
                 rw [show (k93).sz = 6 from rfl, Int.toNat_natCast, add_field _ _ 3 (by omega)] at vx3
                 rw [show (k93).sz = 6 from rfl, Int.toNat_natCast, add_field _ _ 4 (by omega)] at vx4
                 rw [show (k93).sz = 6 from rfl, Int.toNat_natCast, add_field _ _ 5 (by omega)] at vx5
                 clear vcc
                 try simp only [Int.toNat_natCast] at vx0 vx1 vx2 vx3 vx4 vx5 vK vl3 vg3 vl4 vg4
                 generalize Yvv0 : s.f2.getD kkd z93 = vv at vx0 vx1 vx2 vx3 vx4 vx5 vK vl3 vg3 vl4 vg4
                 have Yvv := Aside0.mk Yvv0; clear Yvv0
                 have vL3 := Aside0.mk vl3; have vG3 := Aside0.mk vg3; clear vl3 vg3
                 have vL4 := Aside0.mk vl4; have vG4 := Aside0.mk vg4; clear vl4 vg4
                 have DRd := drop_getD s.f2 z93 kkd hltd
                 rw [Yvv.out] at DRd
                 have FI1 := FI.out
                 rw [DRd] at FI1
                 have FI2 := Aside0.mk FI1
                 clear FI FI1 DRd
                 replace FI2 := Aside0.mk (show pre ++ vv.f0 :: ((s.f2.drop (kkd + 1)).map (fun w => w.f0) ++ ((y.f1.drop (kkb + 1)).flatMap stEx ++ (n.f4.drop (kka + 1)).flatMap itEx)) = FIN from FI2.out)
                 have FI3 := FI2.out
                 have HL1 := Aside0.mk (show (pre.length + 1) * 80 ≤ 140737488355328 by have h_ := congrArg List.length FI3; have h2_ := HLEN.out; simp only [List.length_append, List.length_cons] at h_; omega)
                 rw [show ∀ r_, pre ++ vv.f0 :: r_ = (pre ++ [vv.f0]) ++ r_ by intro r_; rw [List.append_assoc]; rfl] at FI3
                 have FI := Aside0.mk FI3; clear FI2 FI3
                 have HKX := Aside0.mk (k42_mk w vv.f0 vL3.out vG3.out vL4.out vG4.out)
                 obtain ⟨Ao, co, rfl⟩ := Kd.R_slice HO.out
                 clear vK
                 have sy1 := (HB.out.cell (World.block_lt_of_cell? w _ HX1.out)).trans HX1.out
                 have sy2 := (HB.out.cell (World.block_lt_of_cell? w _ HX2.out)).trans HX2.out
                 have c5_0 := (blk_cell B5.out 0).trans rfl
                 have c5_1 := (blk_cell B5.out 1).trans rfl
                 have c5_2 := (blk_cell B5.out 2).trans rfl
                 have c5_3 := (blk_cell B5.out 3).trans rfl
                 have c5_4 := (blk_cell B5.out 4).trans rfl
                 have c5_5 := (blk_cell B5.out 5).trans rfl
                 have c5_6 := (blk_cell B5.out 6).trans rfl
                 go_wp2_with (at_builtin; refine Kd.R_append_rows (kRead w k42) (Rr := k42.K w) (w0 := w) w.heap.size rfl _ _ 40 42 (.agg #[.int .i64 0, .string ⟨#[]⟩, .int .i64 0, .slice none 0 0, .slice none 0 0]) 80 rfl HUL.out infoEx rfl (by show 0 < 5; decide) (by omega) (.slice Ao pre.length co) pre [vv.f0] (some ⟨wr.heap.size, 0, none⟩) 1 1 (fun _ => True) (fun _ => False) rfl rfl ?aO ?aR (fun _ _ h => h) (fun _ h => h.elim) ?aF ?aB ?aS ?aL ?_; (case aO => exact (Kd.R_below HO.out (below_alloc (Below.refl _ _) _))); (case aR => exact lit1 (d := kRead w k42) (blk_new wr _) HKX.out); (case aF => exact (fun _ _ => trivial)); (case aB => exact (below_alloc HB.out _)); (case aS => exact ((below_alloc HB.out _)).size); (case aL => exact HL1.out); intro v1 w6 ho_ hb_ hg_ hat_; have HO6 := Aside0.mk ho_; have HB6 := Aside0.mk hb_; have B16 := Aside0.mk (blk_apart (Kd.R_below HO.out (below_alloc (Below.refl _ _) _)) hg_ (blk_alloc B1.out _) (show (35 : Nat) ≠ 42 by decide)); have B56 := Aside0.mk (blk_apart (Kd.R_below HO.out (below_alloc (Below.refl _ _) _)) hg_ (blk_alloc B5.out _) (show (47 : Nat) ≠ 42 by decide)); clear ho_ hb_ hg_ hat_)
                 clear sy1 sy2 vx0 vx1 vx2 vx3 vx4 vx5 c5_0 c5_1 c5_2 c5_3 c5_4 c5_5 c5_6
                 clear HB HO HL1 HKX B1 B5
                 have HB := HB6; have HO := HO6; have B1 := B16; have B5 := B56; clear HB6 HO6 B16 B56
                 go_roundg (s.f2.length - (kkd + 1))
                 case measure => omega
                 case rel => exact ⟨kkd + 1, _, _, by omega, by omega, by go_num, rfl, HB, HO, B1, B5, FI⟩
               · have hltzd : ¬ (kkd : Int) < (s.f2.length : Int) := by omega
                 obtain rfl : kkd = s.f2.length := by omega
                 have FI1 := FI.out
                 rw [List.drop_length] at FI1
                 have FI2 := Aside0.mk FI1
                 clear FI FI1
                 have h_ := FI2.out
                 rw [List.map_nil, List.nil_append] at h_
                 have FI := Aside0.mk h_
                 clear h_
                 clear FI2
                 have sy1 := (HB.out.cell (World.block_lt_of_cell? w _ HX1.out)).trans HX1.out
                 have sy2 := (HB.out.cell (World.block_lt_of_cell? w _ HX2.out)).trans HX2.out
                 have c5_0 := (blk_cell B5.out 0).trans rfl
                 have c5_1 := (blk_cell B5.out 1).trans rfl
                 have c5_2 := (blk_cell B5.out 2).trans rfl
                 have c5_3 := (blk_cell B5.out 3).trans rfl
                 have c5_4 := (blk_cell B5.out 4).trans rfl
                 have c5_5 := (blk_cell B5.out 5).trans rfl
                 have c5_6 := (blk_cell B5.out 6).trans rfl
                 go_wp2_with fail
                 clear sy1 sy2 c5_0 c5_1 c5_2 c5_3 c5_4 c5_5 c5_6
                 go_roundg (y.f1.length - (kkb + 1))
                 case measure => omega
                 case rel => exact ⟨kkb + 1, _, _, by omega, by omega, by go_num, rfl, HB, HO, B1, B5, FI⟩
       · have hltzb : ¬ (kkb : Int) < (y.f1.length : Int) := by omega
         obtain rfl : kkb = y.f1.length := by omega
         have FI1 := FI.out
         rw [List.drop_length] at FI1
         have FI2 := Aside0.mk FI1
         clear FI FI1
         have h_ := FI2.out
         rw [List.flatMap_nil, List.nil_append] at h_
         have FI := Aside0.mk h_
         clear h_
         clear FI2
         have c5_0 := (blk_cell B5.out 0).trans rfl
         have c5_1 := (blk_cell B5.out 1).trans rfl
         have c5_2 := (blk_cell B5.out 2).trans rfl
         have c5_3 := (blk_cell B5.out 3).trans rfl
         have c5_4 := (blk_cell B5.out 4).trans rfl
         have c5_5 := (blk_cell B5.out 5).trans rfl
         have c5_6 := (blk_cell B5.out 6).trans rfl
         go_wp2_with fail
         clear c5_0 c5_1 c5_2 c5_3 c5_4 c5_5 c5_6
         go_roundg (n.f4.length - (kka + 1))
         case measure => omega
         case rel => exact ⟨kka + 1, _, _, by omega, by omega, by go_num, rfl, HB, HO, B1, FI⟩
   · have hltza : ¬ (kka : Int) < (n.f4.length : Int) := by omega
     obtain rfl : kka = n.f4.length := by omega
     have FI1 := FI.out
     rw [List.drop_length] at FI1
     have FI2 := Aside0.mk FI1
     clear FI FI1
     have FI := FI2.out
     rw [List.flatMap_nil, List.append_nil] at FI
     subst FI
     obtain ⟨Ao, co, rfl, hco, hC⟩ := Kd.R_reads HO.out
     have HCO := Aside0.mk hco; have HCC := Aside0.mk hC
     clear hco hC HO FI2
     have c1_0 := (blk_cell B1.out 0).trans rfl
     have c1_1 := (blk_cell B1.out 1).trans rfl
     have c1_2 := (blk_cell B1.out 2).trans rfl
     have c1_3 := (blk_cell B1.out 3).trans rfl
     have c1_4 := (blk_cell B1.out 4).trans rfl
     go_wp2_with fail
     go_ret
     exact ⟨Ao, co, rfl, HCO.out, kRead_C HCC.out HB.out, HB.out⟩
def dOk (e : S42) : Bool := decide (depthE e ≤ 40)
def accS (n : Int) (e : S42) : Int := wrap64 (n + sizeE e)
def rokB (n : S35) : Bool := (ndEx n).all dOk && decide ((ndEx n).foldl accS 0 ≤ 300)
def rrightP (made : Bool) (es : List S38) (ns : List S35) : Int := if rfieldB made es ns = true then (if ns.all rokB = true then 0 else 9) else 10
theorem accS_step (l : List S42) (k : Nat) (h : k < l.length) (n : Int) : (l.drop k).foldl accS n = (l.drop (k + 1)).foldl accS (wrap64 (n + sizeE (l.getD k z42))) := by
 rw [drop_getD l z42 k h, List.foldl_cons]; rfl
set_option maxHeartbeats 16000000 in
theorem rright_calls (made : Bool) (es : List S38) (ns : List S35) (Ae An : Option Addr) (ce cn : Nat) (w : World) (he : k38.C w Ae es.length es) (hn : k35.C w An ns.length ns) (hx : ∀ k, k < ns.length → (ndEx (ns.getD k z35)).length ≤ 4194304) :
   Calls Tryz.prog 9 #[.agg #[.slice Ae es.length ce, .slice An ns.length cn], .bool made] w fun e w' => e = .returned (.int .i64 (rrightP made es ns)) ∧ Below w.heap.size w w' := by
 have HE := Aside0.mk he; have HN := Aside0.mk hn; have HX := Aside0.mk hx; have HB := Aside0.mk (Below.refl w.heap.size w)
 clear he hn hx
 have hu1 := Tryz.underlying25
 have hu2 := Tryz.underlying35
 have hu3 := Tryz.underlying42
 have hrf := fun (W : World) (hB : Below w.heap.size w W) => rfield_calls made es ns Ae An ce cn W (Kd.C_below HE.out hB) (Kd.C_below HN.out hB)
 have HR := Aside0.mk (show rrightP made es ns = if rfieldB made es ns = true then (if ns.all rokB = true then 0 else 9) else 10 from rfl)
 generalize rfieldB made es ns = fb at hrf HR
 go_enter Tryz.func9, Tryz.ntmps9
 go_wp2_with ((with_reducible refine gate_dst (N := 2) rfl ?_); refine box_event ?hg (N := 2) ?hd (cs := #[.slice Ae es.length ce, .slice An ns.length cn]) (t := 25) ?hr ?_; (case hd => rfl); (case hg => rfl); (case hr => first | (go_simp; done) | (go_simp; rfl)); intro g2 hg_ w_ hbox hb; have B2 := Aside0.mk hbox; have LB2 := Aside0.mk ((by rw [hg_]; exact below_size HB.out) : w.heap.size ≤ g2); replace HB := Aside0.mk (below_step HB.out hb); clear hb hbox hg_; have c2_0 := (blk_cell B2.out 0).trans rfl; have c2_1 := (blk_cell B2.out 1).trans rfl)
 refine (hrf _ HB.out).mono ?_
 rintro e_ w3 ⟨rfl, hb⟩
 replace B2 := Aside0.mk (below_blk B2.out hb)
 replace HB := Aside0.mk (below_step HB.out hb)
 clear hb hrf c2_0 c2_1
 have c2_0 := (blk_cell B2.out 0).trans rfl
 have c2_1 := (blk_cell B2.out 1).trans rfl
 cases fb with
 | false =>
   go_wp2_with fail
   go_ret
   exact ⟨by rw [HR.out]; rfl, HB.out⟩
 | true =>
 have HR2 := Aside0.mk (show rrightP made es ns = if ns.all rokB = true then 0 else 9 from HR.out)
 clear HR
 go_wp2_with fail
 clear c2_0 c2_1
 go_loopg [5] ns.length (fun gg s_ wr => ∃ (kka : Nat), kka ≤ ns.length ∧ ns.length - kka ≤ gg ∧ s_ = .int .i64 kka ∧ Aside0 (Below w.heap.size w wr) ∧ Aside0 (wr.heap[g2]? = some (.cells #[.slice Ae es.length ce, .slice An ns.length cn] 25 (0, 0))) ∧ Aside0 (∀ j, j < kka → rokB (ns.getD j z35) = true))
 case atStart => exact ⟨0, Nat.zero_le _, by omega, rfl, HB, B2, ⟨upto_none (P := rokB)⟩⟩
 case round =>
   clear HB B2
   obtain ⟨kka, hkka, hgkka, rfl, HB, B2, Na⟩ := hrel
   have hmxa : ns.length ≤ 9223372036854775807 := (HN.out).2.1
   by_cases hlta : kka < ns.length
   · have hltza : (kka : Int) < (ns.length : Int) := by omega
     have c2_0 := (blk_cell B2.out 0).trans rfl
     have c2_1 := (blk_cell B2.out 1).trans rfl
     have hxx := HX.out kka hlta
     obtain ⟨nad, ncs, rfl, _, nK, ncc⟩ := Kd.C_get HN.out z35 (kka : Int) (by omega) (by omega)
     have nK' := nK
     obtain ⟨nA1, nc1, nA2, nc2, nA3, nc3, nA4, nc4, rfl, nl1, ng1, nl2, ng2, nl3, ng3, nl4, ng4⟩ := k35_open nK'
     have nx0 := (HB.out.cell (World.block_lt_of_cell? w _ (ncc 0 _ rfl))).trans (ncc 0 _ rfl)
     have nx1 := (HB.out.cell (World.block_lt_of_cell? w _ (ncc 1 _ rfl))).trans (ncc 1 _ rfl)
     have nx2 := (HB.out.cell (World.block_lt_of_cell? w _ (ncc 2 _ rfl))).trans (ncc 2 _ rfl)
     have nx3 := (HB.out.cell (World.block_lt_of_cell? w _ (ncc 3 _ rfl))).trans (ncc 3 _ rfl)
     have nx4 := (HB.out.cell (World.block_lt_of_cell? w _ (ncc 4 _ rfl))).trans (ncc 4 _ rfl)
     rw [show (k35).sz = 5 from rfl, Nat.add_zero, Int.toNat_natCast] at nx0
     rw [show (k35).sz = 5 from rfl, Int.toNat_natCast, add_field _ _ 1 (by omega)] at nx1
     rw [show (k35).sz = 5 from rfl, Int.toNat_natCast, add_field _ _ 2 (by omega)] at nx2
     rw [show (k35).sz = 5 from rfl, Int.toNat_natCast, add_field _ _ 3 (by omega)] at nx3
     rw [show (k35).sz = 5 from rfl, Int.toNat_natCast, add_field _ _ 4 (by omega)] at nx4
     clear ncc
     try simp only [Int.toNat_natCast] at nx0 nx1 nx2 nx3 nx4 nK nl1 ng1 nl2 ng2 nl3 ng3 nl4 ng4
     generalize Yn0 : ns.getD kka z35 = n at hxx nx0 nx1 nx2 nx3 nx4 nK nl1 ng1 nl2 ng2 nl3 ng3 nl4 ng4
     have Yn := Aside0.mk Yn0; clear Yn0
     have nL1 := Aside0.mk nl1; have nG1 := Aside0.mk ng1; clear nl1 ng1
     have nL2 := Aside0.mk nl2; have nG2 := Aside0.mk ng2; clear nl2 ng2
     have nL3 := Aside0.mk nl3; have nG3 := Aside0.mk ng3; clear nl3 ng3
     have nL4 := Aside0.mk nl4; have nG4 := Aside0.mk ng4; clear nl4 ng4
     have HXX := Aside0.mk hxx; clear hxx
     have hex := fun (W : World) (hB : Below w.heap.size w W) => rexprs_calls n W _ (Kd.K_below _ hB nK) HXX.out
     have HOK := Aside0.mk (show rokB n = ((ndEx n).all dOk && decide ((ndEx n).foldl accS 0 ≤ 300)) from rfl)
     generalize ndEx n = l at hex HOK HXX
     clear nK
     go_wp2_with fail
     refine (hex _ HB.out).mono ?_
     rintro e_ w5 ⟨A, c, rfl, hlc, hC, hb⟩
     have HLC := Aside0.mk hlc; have HC := Aside0.mk hC
     replace B2 := Aside0.mk (below_blk B2.out hb)
     replace HB := Aside0.mk (below_step HB.out hb)
     clear hlc hC hb hex nx0 nx1 nx2 nx3 nx4 c2_0 c2_1
     go_wp2_with fail
     go_loopg [7, 8] l.length (fun gg s7 s8 wr => ∃ (kkb : Nat) (m : Int), kkb ≤ l.length ∧ l.length - kkb ≤ gg ∧ s8 = .int .i64 kkb ∧ s7 = .int .i64 m ∧ Aside0 (Below w.heap.size w wr) ∧ Aside0 (wr.heap[g2]? = some (.cells #[.slice Ae es.length ce, .slice (some nad) ns.length cn] 25 (0, 0))) ∧ Aside0 (k42.C wr A l.length l) ∧ Aside0 ((l.drop kkb).foldl accS m = l.foldl accS 0) ∧ Aside0 (∀ j, j < kkb → dOk (l.getD j z42) = true))
     case atStart => exact ⟨0, 0, Nat.zero_le _, by omega, rfl, rfl, HB, B2, HC, ⟨rfl⟩, ⟨upto_none (P := dOk)⟩⟩
     case round =>
       clear HB B2 HC
       obtain ⟨kkb, m, hkkb, hgb, rfl, rfl, HB, B2, HC, N, ND⟩ := hrel
       have hmxb : l.length ≤ 9223372036854775807 := HC.out.2.1
       have hcb : (l.length : Int) ≤ c := by have := HLC.out; omega
       by_cases hltb : kkb < l.length
       · have hltzb : (kkb : Int) < (l.length : Int) := by omega
         have hst := accS_step l kkb hltb m
         have hkc : (kkb : Int) < c := by omega
         obtain ⟨yad, ycs, rfl, _, yK, ycc⟩ := Kd.C_get HC.out z42 (kkb : Int) (by omega) (by omega)
         have yK' := yK
         obtain ⟨yA3, yc3, yA4, yc4, rfl, yl3, yg3, yl4, yg4⟩ := k42_open yK'
         have yx0 := ((Below.refl wr.heap.size wr).cell (World.block_lt_of_cell? wr _ (ycc 0 _ rfl))).trans (ycc 0 _ rfl)
         have yx1 := ((Below.refl wr.heap.size wr).cell (World.block_lt_of_cell? wr _ (ycc 1 _ rfl))).trans (ycc 1 _ rfl)
         have yx2 := ((Below.refl wr.heap.size wr).cell (World.block_lt_of_cell? wr _ (ycc 2 _ rfl))).trans (ycc 2 _ rfl)
         have yx3 := ((Below.refl wr.heap.size wr).cell (World.block_lt_of_cell? wr _ (ycc 3 _ rfl))).trans (ycc 3 _ rfl)
         have yx4 := ((Below.refl wr.heap.size wr).cell (World.block_lt_of_cell? wr _ (ycc 4 _ rfl))).trans (ycc 4 _ rfl)
         rw [show (k42).sz = 5 from rfl, Nat.add_zero, Int.toNat_natCast] at yx0
         rw [show (k42).sz = 5 from rfl, Int.toNat_natCast, add_field _ _ 1 (by omega)] at yx1
         rw [show (k42).sz = 5 from rfl, Int.toNat_natCast, add_field _ _ 2 (by omega)] at yx2
         rw [show (k42).sz = 5 from rfl, Int.toNat_natCast, add_field _ _ 3 (by omega)] at yx3
         rw [show (k42).sz = 5 from rfl, Int.toNat_natCast, add_field _ _ 4 (by omega)] at yx4
         clear ycc
         try simp only [Int.toNat_natCast] at yx0 yx1 yx2 yx3 yx4 yK yl3 yg3 yl4 yg4
         generalize Yy0 : l.getD kkb z42 = y at hst yx0 yx1 yx2 yx3 yx4 yK yl3 yg3 yl4 yg4
         have Yy := Aside0.mk Yy0; clear Yy0
         have YK := Aside0.mk yK
         have hs1 := fun (W : World) (hB : Below wr.heap.size wr W) => rsize_calls y W _ (Kd.K_below _ hB YK.out)
         have hs2 := fun (W : World) (hB : Below wr.heap.size wr W) => rdepth_calls y W _ (Kd.K_below _ hB YK.out)
         have HST := Aside0.mk (hst.symm.trans N.out); clear hst N
         have HDY := Aside0.mk (show dOk y = decide (depthE y ≤ 40) from rfl)
         generalize sizeE y = v at hs1 HST
         generalize depthE y = dv at hs2 HDY
         clear yK yl3 yg3 yl4 yg4
         go_wp2_with fail
         refine (hs1 _ (Below.refl _ _)).mono ?_
         rintro e_ w6 ⟨rfl, hb⟩
         replace yx0 := pw_cell_below hb yx0
         replace yx1 := pw_cell_below hb yx1
         replace yx2 := pw_cell_below hb yx2
         replace yx3 := pw_cell_below hb yx3
         replace yx4 := pw_cell_below hb yx4
         replace B2 := Aside0.mk (below_blk B2.out hb)
         replace HB := Aside0.mk (below_step HB.out hb)
         replace HC := Aside0.mk (Kd.C_below HC.out hb)
         have HK1 := Aside0.mk hb
         clear hb hs1
         go_wp2_with fail
         refine (hs2 _ HK1.out).mono ?_
         rintro e_ w7 ⟨rfl, hb⟩
         replace B2 := Aside0.mk (below_blk B2.out hb)
         replace HB := Aside0.mk (below_step HB.out hb)
         replace HC := Aside0.mk (Kd.C_below HC.out hb)
         clear hb hs2 HK1 yx0 yx1 yx2 yx3 yx4
         by_cases hd : dv > 40
         · have HOK2 := Aside0.mk (show rokB n = false by rw [HOK.out, all_getD_no l dOk z42 kkb hltb (by rw [Yy.out, HDY.out]; exact decide_eq_false (by omega))]; rfl)
           go_wp2_with fail
           go_ret
           exact ⟨by rw [HR2.out, all_getD_no ns rokB z35 kka hlta (by rw [Yn.out]; exact HOK2.out)]; rfl, HB.out⟩
         go_wp2_with fail
         go_roundg (l.length - (kkb + 1))
         case measure => omega
         case rel => exact ⟨kkb + 1, _, by omega, by omega, by go_num, rfl, HB, B2, HC, HST, ⟨upto_step (P := dOk) ND.out Yy.out (HDY.out.trans (decide_eq_true (by omega)))⟩⟩
       · have hltzb : ¬ (kkb : Int) < (l.length : Int) := by omega
         obtain rfl : kkb = l.length := by omega
         have n1 := N.out
         rw [List.drop_length, List.foldl_nil] at n1
         have HOK2 := Aside0.mk (show rokB n = decide (m ≤ 300) by rw [HOK.out, all_getD l dOk z42 ND.out, ← n1]; rfl)
         clear n1 N ND
         by_cases hm : m > 300
         · have HOK3 := Aside0.mk (HOK2.out.trans (decide_eq_false (by omega)))
           go_wp2_with fail
           go_ret
           exact ⟨by rw [HR2.out, all_getD_no ns rokB z35 kka hlta (by rw [Yn.out]; exact HOK3.out)]; rfl, HB.out⟩
         have HOK3 := Aside0.mk (HOK2.out.trans (decide_eq_true (by omega)))
         clear HC
         go_wp2_with fail
         go_roundg (ns.length - (kka + 1))
         case measure => omega
         case rel => exact ⟨kka + 1, by omega, by omega, by go_num, HB, B2, ⟨upto_step (P := rokB) Na.out Yn.out HOK3.out⟩⟩
   · have hltza : ¬ (kka : Int) < (ns.length : Int) := by omega
     obtain rfl : kka = ns.length := by omega
     have c2_0 := (blk_cell B2.out 0).trans rfl
     have c2_1 := (blk_cell B2.out 1).trans rfl
     go_wp2_with fail
     go_ret
     exact ⟨by rw [HR2.out, all_getD ns rokB z35 Na.out]; rfl, HB.out⟩
end Go.Proofs.YtggfnbnochmkdaaGreat
