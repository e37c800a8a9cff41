/- Package reread: expressions, whatever their depth. -/
import Derived.Test.YticndoihkfbpoaaGreatDoorUd
namespace Go.Proofs.YticndoihkfbpoaaGreatDoor
open Go Go.RowKit Go.Lib Go.Proofs.YticndoihkfbpoaaGreatDoorW.PrintWords Go.Proofs.YticndoihkfbpoaaGreatDoor.PScope
set_option maxRecDepth 100000
set_option linter.unusedSimpArgs false
set_option linter.unusedVariables false
section
variable {w0 w : World} {g : Nat} {ws : List ByteArray} {k : Nat} {o : Int}
set_option maxHeartbeats 4000000 in
theorem expr_step (d : Nat) (hex : ∀ (W : World) (k' : Nat), PS w0 W g ws k' (o + 1) → Calls Tryz.prog 153 #[.pointer (some ⟨g, 0, none⟩)] W (POut (retE W.heap.size) w0 W g ws (o + 1) (exprR ws d k'))) (h0 : 0 ≤ o) (h1 : o < 200) (h : PS w0 w g ws k o) (hL : LaidR w0) :
  Calls Tryz.prog 153 #[.pointer (some ⟨g, 0, none⟩)] w (POut (retE w.heap.size) w0 w g ws o (exprR ws (d + 1) k)) := by
 have HX := Aside0.mk hex
 have HU := Aside0.mk Tryz.underlying38
 have hwo : wrap64 o = o := by unfold wrap64; omega
 have HWO := Aside0.mk hwo
 have HO := Aside0.mk (And.intro h0 h1)
 have NE2 : Aside0 (w.heap.size ≠ g) := ⟨Nat.ne_of_gt h.lt⟩
 have LE2 : Aside0 (w0.heap.size ≤ w.heap.size) := ⟨h.be.size⟩
 clear hex hwo h0 h1
 have HP := Aside0.mk h
 have HK := Aside0.mk (KeepBut.refl w g none)
 obtain ⟨R, hR⟩ : ∃ R, exprR ws (d + 1) k = R := ⟨_, rfl⟩
 rw [hR]
 unfold exprR at hR
 have HR := Aside0.mk hR
 clear h hR
 have HL := Aside0.mk hL
 clear hL
 go_enter Tryz.func153, Tryz.ntmps153
 go_wp2_with fail
 have B2 := Aside0.mk (blk_new w (.cells #[.int .i64 0, .string ⟨#[]⟩, .int .i64 0, .slice none 0 0, .slice none 0 0] 38 (0, 0)))
 replace HP := Aside0.mk (HP.out.alloc (.cells #[.int .i64 0, .string ⟨#[]⟩, .int .i64 0, .slice none 0 0, .slice none 0 0] 38 (0, 0)))
 replace HK := Aside0.mk (keep_alloc HK.out (.cells #[.int .i64 0, .string ⟨#[]⟩, .int .i64 0, .slice none 0 0, .slice none 0 0] 38 (0, 0)))
 refine (begin_calls HP.out HO.out.1 (by have := HO.out.2; omega)).mono ?_
 intro e w1 hp
 rw [if_pos HO.out.2] at hp
 obtain ⟨rfl, hp1, hk1⟩ := hp
 replace B2 := Aside0.mk (KeepBut.blk hk1 B2.out NE2.out (by simp))
 replace HK := Aside0.mk (KeepBut.trans HK.out hk1 (.inl rfl))
 replace HP := Aside0.mk hp1
 clear hp1 hk1
 go_wp2_with fail
 have B3 := Aside0.mk (blk_new w1 (.cells #[.int .i64 0, .string ⟨#[]⟩, .int .i64 0, .slice none 0 0, .slice none 0 0] 38 (0, 0)))
 have NE3 : Aside0 (w1.heap.size ≠ g) := ⟨Nat.ne_of_gt HP.out.lt⟩
 have LT3 : Aside0 (w.heap.size < w1.heap.size) := ⟨blk_lt B2.out⟩
 replace B2 := Aside0.mk (blk_alloc B2.out (.cells #[.int .i64 0, .string ⟨#[]⟩, .int .i64 0, .slice none 0 0, .slice none 0 0] 38 (0, 0)))
 replace HP := Aside0.mk (HP.out.alloc (.cells #[.int .i64 0, .string ⟨#[]⟩, .int .i64 0, .slice none 0 0, .slice none 0 0] 38 (0, 0)))
 replace HK := Aside0.mk (keep_alloc HK.out (.cells #[.int .i64 0, .string ⟨#[]⟩, .int .i64 0, .slice none 0 0, .slice none 0 0] 38 (0, 0)))
 refine (next_calls HP.out).mono ?_
 rintro e w2 ⟨rfl, hp1, hk1⟩
 replace B2 := Aside0.mk (KeepBut.blk hk1 B2.out NE2.out (by simp))
 replace B3 := Aside0.mk (KeepBut.blk hk1 B3.out NE3.out (by simp))
 replace HK := Aside0.mk (KeepBut.trans HK.out hk1 (.inl rfl))
 replace HP := Aside0.mk hp1
 clear hp1 hk1
 have NL := Aside0.mk (next_lt HP.out)
 have NW := Aside0.mk (next_wee HP.out)
 generalize nextR ws k = s at HR NL NW ⊢
 go_wp2_with fail
 refine (numeral_calls s w2 (HP.out.laid HL.out) NW.out).mono ?_
 rintro e w3 ⟨⟨n, rfl, hn⟩, hb⟩
 have hk1 := KeepBut.of_below hb g none
 have hp1 := HP.out.below hb
 clear hb
 replace B2 := Aside0.mk (KeepBut.blk hk1 B2.out NE2.out (by simp))
 replace B3 := Aside0.mk (KeepBut.blk hk1 B3.out NE3.out (by simp))
 replace HK := Aside0.mk (KeepBut.trans HK.out hk1 (.inl rfl))
 replace HP := Aside0.mk hp1
 clear hp1 hk1
 cases hq : numP s with
 | some v =>
  obtain rfl := hn v hq
  have HLT := Aside0.mk (NL.out (fun e => by rw [e, numP_es] at hq; cases hq))
  have hr := HR.out
  rw [hq] at hr
  dsimp only at hr
  replace HR := Aside0.mk hr
  clear hr hq hn NL NW
  obtain ⟨x1, x2, y1, y2⟩ := HP.out.cells
  have hw := wrap_at HP.out
  replace B2 := Aside0.mk (blk_far (p := ⟨g, 1, none⟩) B2.out NE2.out (.int .i64 ((k : Int) + 1)))
  replace B3 := Aside0.mk (blk_far (p := ⟨g, 1, none⟩) B3.out NE3.out (.int .i64 ((k : Int) + 1)))
  replace HK := Aside0.mk (KeepBut.set_ HK.out 1 (.int .i64 ((k : Int) + 1)))
  replace HP := Aside0.mk (HP.out.at1 HLT.out)
  clear HLT
  go_wp2_with (first | ((with_reducible refine gate_store (t := 38) (p := 3) rfl ?_); refine store_whole rfl rfl 38 _ _ rfl w1.heap.size _ 38 rfl B3.out _ rfl rfl rfl (by simp [Value.oneCell']) ?_; intro wa hb2 hg2; replace B2 := Aside0.mk ((hg2.block _ (blk_lt B2.out) (by intro e; injection e with e; have := LT3.out; omega)).trans B2.out); replace HP := Aside0.mk (HP.out.grown hg2 NE3.out (by have := LE2.out; have := LT3.out; omega)); replace HK := Aside0.mk (keep_grown HK.out hg2 (by have := LT3.out; omega)); replace B3 := Aside0.mk hb2; have e3_0 := (blk_cell hb2 0).trans rfl; have e3_1 := (blk_cell hb2 1).trans rfl; have e3_2 := (blk_cell hb2 2).trans rfl; have e3_3 := (blk_cell hb2 3).trans rfl; have e3_4 := (blk_cell hb2 4).trans rfl; clear hb2 hg2; have HP2 := Aside0.mk (HP.out.open_ o); have B22 := Aside0.mk (blk_far (p := ⟨g, 2, none⟩) B2.out NE2.out (.int .i64 o)); have B33 := Aside0.mk (blk_far (p := ⟨g, 2, none⟩) B3.out NE3.out (.int .i64 o)); have e4_0 := (blk_cell B33.out 0).trans rfl; have e4_1 := (blk_cell B33.out 1).trans rfl; have e4_2 := (blk_cell B33.out 2).trans rfl; have e4_3 := (blk_cell B33.out 3).trans rfl; have e4_4 := (blk_cell B33.out 4).trans rfl; have HK2 := Aside0.mk (KeepBut.set_ HK.out 2 (.int .i64 o)); obtain ⟨x1, x2, y1, y2⟩ := HP.out.cells; have hwo := HWO.out) | ((with_reducible refine gate_store (t := 38) (p := 2) rfl ?_); refine store_whole rfl rfl 38 _ _ rfl w.heap.size _ 38 rfl B22.out _ rfl rfl rfl (by simp [Value.oneCell']) ?_; intro wf hbf hgf; have HBF := Aside0.mk hbf; have HGF := Aside0.mk hgf; clear hbf hgf))
  refine bodyPost_ret (results_c1 rfl _ _ w.heap.size 38 _ (0, 0) _ rfl HBF.out HU.out rfl rfl) rfl ?_
  rw [← HR.out]
  exact POut.fin HP2.out HK2.out HGF.out NE2.out LE2.out (Nat.le_refl _) ⟨_, rfl, M_expr_flat wf _ 1 es n⟩
 | none =>
 have hr := HR.out
 rw [hq] at hr
 dsimp only at hr
 replace HR := Aside0.mk hr
 clear hr hq hn NL NW
 go_wp2_with fail
 refine (takes_calls HP.out memS).mono ?_
 rintro e w4 ⟨rfl, hp1, hk1⟩
 replace B2 := Aside0.mk (KeepBut.blk hk1 B2.out NE2.out (by simp))
 replace B3 := Aside0.mk (KeepBut.blk hk1 B3.out NE3.out (by simp))
 replace HK := Aside0.mk (KeepBut.trans HK.out hk1 (.inl rfl))
 replace HP := Aside0.mk hp1
 clear hp1 hk1
 cases ht : takesR ws memS k with
 | true =>
  have hr := HR.out
  rw [ht, if_pos rfl] at hr
  replace HR := Aside0.mk hr
  have hp := HP.out
  rw [ht, if_pos rfl] at hp
  replace HP := Aside0.mk hp
  clear hr hp ht
  go_wp2_with fail
  refine (cell_calls HP.out HL.out).mono ?_
  intro e w5 hp
  unfold POut at hp
  cases h1 : cellR ws (k + 1) with
  | error f =>
   rw [h1] at hp
   have hr := HR.out
   rw [h1] at hr
   replace HR := Aside0.mk (show (.error f) = R from hr)
   clear hr h1
   obtain ⟨rfl, hb⟩ := hp
   have HR2 := Aside0.mk (show R = .error f from HR.out.symm)
   have HBB := Aside0.mk hb
   clear HR hb
   go_wp2_with fail
   exact ⟨rfl, by rw [HR2.out]; exact ⟨rfl, HBB.out⟩⟩
  | ok n_ =>
  obtain ⟨n_, kn_⟩ := n_
  rw [h1] at hp
  dsimp only at hp
  obtain ⟨un_, rfl, rfl, hp1, hk1⟩ := hp
  have hr := HR.out
  rw [h1] at hr
  dsimp only at hr
  replace HR := Aside0.mk hr
  clear hr h1
  replace B2 := Aside0.mk (KeepBut.blk hk1 B2.out NE2.out (by simp))
  replace B3 := Aside0.mk (KeepBut.blk hk1 B3.out NE3.out (by simp))
  replace HK := Aside0.mk (KeepBut.trans HK.out hk1 (.inl rfl))
  replace HP := Aside0.mk hp1
  clear hp1 hk1
  skip
  go_wp2_with (first | ((with_reducible refine gate_store (t := 38) (p := 3) rfl ?_); refine store_whole rfl rfl 38 _ _ rfl w1.heap.size _ 38 rfl B3.out _ rfl rfl rfl (by simp [Value.oneCell']) ?_; intro wa hb2 hg2; replace B2 := Aside0.mk ((hg2.block _ (blk_lt B2.out) (by intro e; injection e with e; have := LT3.out; omega)).trans B2.out); replace HP := Aside0.mk (HP.out.grown hg2 NE3.out (by have := LE2.out; have := LT3.out; omega)); replace HK := Aside0.mk (keep_grown HK.out hg2 (by have := LT3.out; omega)); replace B3 := Aside0.mk hb2; have e3_0 := (blk_cell hb2 0).trans rfl; have e3_1 := (blk_cell hb2 1).trans rfl; have e3_2 := (blk_cell hb2 2).trans rfl; have e3_3 := (blk_cell hb2 3).trans rfl; have e3_4 := (blk_cell hb2 4).trans rfl; clear hb2 hg2; have HP2 := Aside0.mk (HP.out.open_ o); have B22 := Aside0.mk (blk_far (p := ⟨g, 2, none⟩) B2.out NE2.out (.int .i64 o)); have B33 := Aside0.mk (blk_far (p := ⟨g, 2, none⟩) B3.out NE3.out (.int .i64 o)); have e4_0 := (blk_cell B33.out 0).trans rfl; have e4_1 := (blk_cell B33.out 1).trans rfl; have e4_2 := (blk_cell B33.out 2).trans rfl; have e4_3 := (blk_cell B33.out 3).trans rfl; have e4_4 := (blk_cell B33.out 4).trans rfl; have HK2 := Aside0.mk (KeepBut.set_ HK.out 2 (.int .i64 o)); obtain ⟨x1, x2, y1, y2⟩ := HP.out.cells; have hwo := HWO.out) | ((with_reducible refine gate_store (t := 38) (p := 2) rfl ?_); refine store_whole rfl rfl 38 _ _ rfl w.heap.size _ 38 rfl B22.out _ rfl rfl rfl (by simp [Value.oneCell']) ?_; intro wf hbf hgf; have HBF := Aside0.mk hbf; have HGF := Aside0.mk hgf; clear hbf hgf))
  refine bodyPost_ret (results_c1 rfl _ _ w.heap.size 38 _ (0, 0) _ rfl HBF.out HU.out rfl rfl) rfl ?_
  rw [← HR.out]
  exact POut.fin HP2.out HK2.out HGF.out NE2.out LE2.out (Nat.le_refl _) ⟨_, rfl, M_expr_flat wf _ 16 es n_⟩
 | false =>
 have hr := HR.out
 rw [ht, if_neg Bool.false_ne_true] at hr
 replace HR := Aside0.mk hr
 have hp := HP.out
 rw [ht, if_neg Bool.false_ne_true] at hp
 replace HP := Aside0.mk hp
 clear hr hp ht
 go_wp2_with fail
 refine (takes_calls HP.out opnS).mono ?_
 rintro e w5 ⟨rfl, hp1, hk1⟩
 replace B2 := Aside0.mk (KeepBut.blk hk1 B2.out NE2.out (by simp))
 replace B3 := Aside0.mk (KeepBut.blk hk1 B3.out NE3.out (by simp))
 replace HK := Aside0.mk (KeepBut.trans HK.out hk1 (.inl rfl))
 replace HP := Aside0.mk hp1
 clear hp1 hk1
 cases ht : takesR ws opnS k with
 | true =>
  have hr := HR.out
  rw [ht, if_pos rfl] at hr
  replace HR := Aside0.mk hr
  have hp := HP.out
  rw [ht, if_pos rfl] at hp
  replace HP := Aside0.mk hp
  clear hr hp ht
  go_wp2_with fail
  have LWx := Aside0.mk (blk_lt B3.out)
  refine (inner_calls _ HX.out HP.out).mono ?_
  intro e w6 hp
  unfold POut at hp
  cases h1 : innerR ws (exprR ws d) (k + 1) with
  | error f =>
   rw [h1] at hp
   have hr := HR.out
   rw [h1] at hr
   replace HR := Aside0.mk (show (.error f) = R from hr)
   clear hr h1
   obtain ⟨rfl, hb⟩ := hp
   have HR2 := Aside0.mk (show R = .error f from HR.out.symm)
   have HBB := Aside0.mk hb
   clear HR hb
   go_wp2_with fail
   exact ⟨rfl, by rw [HR2.out]; exact ⟨rfl, HBB.out⟩⟩
  | ok x =>
  obtain ⟨x, kx⟩ := x
  rw [h1] at hp
  dsimp only at hp
  obtain ⟨ux, rfl, retx, hp1, hk1⟩ := hp
  have hr := HR.out
  rw [h1] at hr
  dsimp only at hr
  replace HR := Aside0.mk hr
  clear hr h1
  replace B2 := Aside0.mk (KeepBut.blk hk1 B2.out NE2.out (by simp))
  replace B3 := Aside0.mk (KeepBut.blk hk1 B3.out NE3.out (by simp))
  replace HK := Aside0.mk (KeepBut.trans HK.out hk1 (.inl rfl))
  replace HP := Aside0.mk hp1
  clear hp1 hk1
  obtain ⟨csx, rfl, hmx⟩ := retx
  have hnx := kE.M_lower (base' := w1.heap.size + 1) LWx.out hmx
  obtain ⟨v3x, v4x, rfl, _, _⟩ := k38_openM hnx
  have HMx := Aside0.mk hnx
  clear hmx hnx LWx
  go_wp2_with ((with_reducible refine gate_store (t := 38) (p := 3) rfl ?_); refine store_whole rfl rfl 38 _ _ rfl w1.heap.size _ 38 rfl B3.out _ rfl rfl rfl (kE.K_one (kE.K_of_M HMx.out)) ?_; intro wa hb2 hg2; replace B2 := Aside0.mk ((hg2.block _ (blk_lt B2.out) (by intro e; injection e with e; have := LT3.out; omega)).trans B2.out); replace HP := Aside0.mk (HP.out.grown hg2 NE3.out (by have := LE2.out; have := LT3.out; omega)); replace HK := Aside0.mk (keep_grown HK.out hg2 (by have := LT3.out; omega)); replace HMx := Aside0.mk (M_grownb HMx.out hg2); replace B3 := Aside0.mk hb2; have e3_0 := (blk_cell hb2 0).trans rfl; have e3_1 := (blk_cell hb2 1).trans rfl; have e3_2 := (blk_cell hb2 2).trans rfl; have e3_3 := (blk_cell hb2 3).trans rfl; have e3_4 := (blk_cell hb2 4).trans rfl; clear hb2 hg2)
  clear e3_0 e3_1 e3_2 e3_3 e3_4
  refine (want_lits HP.out [clsS] (by decide) _ rfl 1 rfl).mono ?_
  intro e w7 hp
  unfold POut0 at hp
  try simp only [wantsR] at hp
  cases h1 : wantR ws clsS kx with
  | error f =>
   rw [h1] at hp
   have hr := HR.out
   rw [h1] at hr
   replace HR := Aside0.mk (show (.error f) = R from hr)
   clear hr h1
   obtain ⟨rfl, hb⟩ := hp
   have HR2 := Aside0.mk (show R = .error f from HR.out.symm)
   have HBB := Aside0.mk hb
   clear HR hb
   go_wp2_with fail
   exact ⟨rfl, by rw [HR2.out]; exact ⟨rfl, HBB.out⟩⟩
  | ok k2 =>
  rw [h1] at hp
  obtain ⟨rfl, hp1, hk1⟩ := hp
  have hr := HR.out
  rw [h1] at hr
  dsimp only at hr
  replace HR := Aside0.mk hr
  clear hr h1
  replace B2 := Aside0.mk (KeepBut.blk hk1 B2.out NE2.out (by simp))
  replace B3 := Aside0.mk (KeepBut.blk hk1 B3.out NE3.out (by simp))
  replace HMx := Aside0.mk (HP.out.keepM (by decide) HMx.out hk1)
  replace HK := Aside0.mk (KeepBut.trans HK.out hk1 (.inl rfl))
  replace HP := Aside0.mk hp1
  clear hp1 hk1
  have e3_0 := (blk_cell B3.out 0).trans rfl
  have e3_1 := (blk_cell B3.out 1).trans rfl
  have e3_2 := (blk_cell B3.out 2).trans rfl
  have e3_3 := (blk_cell B3.out 3).trans rfl
  have e3_4 := (blk_cell B3.out 4).trans rfl
  have HP2 := Aside0.mk (HP.out.open_ o)
  have HM2 := Aside0.mk (HP.out.keepM (by decide) HMx.out (KeepBut.set_ (KeepBut.refl _ g none) 2 (.int .i64 o)))
  have B22 := Aside0.mk (blk_far (p := ⟨g, 2, none⟩) B2.out NE2.out (.int .i64 o))
  have B33 := Aside0.mk (blk_far (p := ⟨g, 2, none⟩) B3.out NE3.out (.int .i64 o))
  have e4_0 := (blk_cell B33.out 0).trans rfl
  have e4_1 := (blk_cell B33.out 1).trans rfl
  have e4_2 := (blk_cell B33.out 2).trans rfl
  have e4_3 := (blk_cell B33.out 3).trans rfl
  have e4_4 := (blk_cell B33.out 4).trans rfl
  have HK2 := Aside0.mk (KeepBut.set_ HK.out 2 (.int .i64 o))
  obtain ⟨x1, x2, y1, y2⟩ := HP.out.cells
  have hwo := HWO.out
  go_wp2_with ((with_reducible refine gate_store (t := 38) (p := 2) rfl ?_); refine store_whole rfl rfl 38 _ _ rfl w.heap.size _ 38 rfl B22.out _ rfl rfl rfl (kE.K_one (kE.K_of_M HMx.out)) ?_; intro wf hbf hgf; have HBF := Aside0.mk hbf; have HGF := Aside0.mk hgf; clear hbf hgf)
  refine bodyPost_ret (results_c1 rfl _ _ w.heap.size 38 _ (0, 0) _ rfl HBF.out HU.out rfl rfl) rfl ?_
  rw [← HR.out]
  exact POut.fin HP2.out HK2.out HGF.out NE2.out LE2.out (Nat.le_refl _) ⟨_, rfl, kE.M_lower (by omega) (M_grownb (kE.M_lower (by have := LT3.out; omega) HM2.out) HGF.out)⟩
 | false =>
 have hr := HR.out
 rw [ht, if_neg Bool.false_ne_true] at hr
 replace HR := Aside0.mk hr
 have hp := HP.out
 rw [ht, if_neg Bool.false_ne_true] at hp
 replace HP := Aside0.mk hp
 clear hr hp ht
 go_wp2_with fail
 refine (name_calls HP.out).mono ?_
 intro e w7 hp
 unfold POut at hp
 cases h1 : nameR ws k with
 | error f =>
  rw [h1] at hp
  have hr := HR.out
  rw [h1] at hr
  replace HR := Aside0.mk (show (.error f) = R from hr)
  clear hr h1
  obtain ⟨rfl, hb⟩ := hp
  have HR2 := Aside0.mk (show R = .error f from HR.out.symm)
  have HBB := Aside0.mk hb
  clear HR hb
  go_wp2_with fail
  exact ⟨rfl, by rw [HR2.out]; exact ⟨rfl, HBB.out⟩⟩
 | ok q =>
 obtain ⟨q, kq⟩ := q
 rw [h1] at hp
 dsimp only at hp
 obtain ⟨uq, rfl, rfl, hp1, hk1⟩ := hp
 have hr := HR.out
 rw [h1] at hr
 dsimp only at hr
 replace HR := Aside0.mk hr
 clear hr h1
 replace B2 := Aside0.mk (KeepBut.blk hk1 B2.out NE2.out (by simp))
 replace B3 := Aside0.mk (KeepBut.blk hk1 B3.out NE3.out (by simp))
 replace HK := Aside0.mk (KeepBut.trans HK.out hk1 (.inl rfl))
 replace HP := Aside0.mk hp1
 clear hp1 hk1
 go_wp2_with (first | ((with_reducible refine gate_store (t := 38) (p := 3) rfl ?_); refine store_whole rfl rfl 38 _ _ rfl w1.heap.size _ 38 rfl B3.out _ rfl rfl rfl (by simp [Value.oneCell']) ?_; intro wa hb2 hg2; replace B2 := Aside0.mk ((hg2.block _ (blk_lt B2.out) (by intro e; injection e with e; have := LT3.out; omega)).trans B2.out); replace HP := Aside0.mk (HP.out.grown hg2 NE3.out (by have := LE2.out; have := LT3.out; omega)); replace HK := Aside0.mk (keep_grown HK.out hg2 (by have := LT3.out; omega)); replace B3 := Aside0.mk hb2; have e3_0 := (blk_cell hb2 0).trans rfl; have e3_1 := (blk_cell hb2 1).trans rfl; have e3_2 := (blk_cell hb2 2).trans rfl; have e3_3 := (blk_cell hb2 3).trans rfl; have e3_4 := (blk_cell hb2 4).trans rfl; clear hb2 hg2; have HP2 := Aside0.mk (HP.out.open_ o); have B22 := Aside0.mk (blk_far (p := ⟨g, 2, none⟩) B2.out NE2.out (.int .i64 o)); have B33 := Aside0.mk (blk_far (p := ⟨g, 2, none⟩) B3.out NE3.out (.int .i64 o)); have e4_0 := (blk_cell B33.out 0).trans rfl; have e4_1 := (blk_cell B33.out 1).trans rfl; have e4_2 := (blk_cell B33.out 2).trans rfl; have e4_3 := (blk_cell B33.out 3).trans rfl; have e4_4 := (blk_cell B33.out 4).trans rfl; have HK2 := Aside0.mk (KeepBut.set_ HK.out 2 (.int .i64 o)); obtain ⟨x1, x2, y1, y2⟩ := HP.out.cells; have hwo := HWO.out) | ((with_reducible refine gate_store (t := 38) (p := 2) rfl ?_); refine store_whole rfl rfl 38 _ _ rfl w.heap.size _ 38 rfl B22.out _ rfl rfl rfl (by simp [Value.oneCell']) ?_; intro wf hbf hgf; have HBF := Aside0.mk hbf; have HGF := Aside0.mk hgf; clear hbf hgf))
 refine bodyPost_ret (results_c1 rfl _ _ w.heap.size 38 _ (0, 0) _ rfl HBF.out HU.out rfl rfl) rfl ?_
 rw [← HR.out]
 exact POut.fin HP2.out HK2.out HGF.out NE2.out LE2.out (Nat.le_refl _) ⟨_, rfl, M_expr_flat wf _ 4 q 0⟩
theorem expr_calls (hL : LaidR w0) : ∀ (d : Nat) (w : World) (k : Nat) (o : Int), o = 200 - (d : Int) → d ≤ 200 → PS w0 w g ws k o →
  Calls Tryz.prog 153 #[.pointer (some ⟨g, 0, none⟩)] w (POut (retE w.heap.size) w0 w g ws o (exprR ws d k)) := by
 intro d
 induction d with
 | zero =>
  intro w k o ho hd h
  have HP := Aside0.mk h
  have HO := Aside0.mk ho
  clear h ho
  go_enter Tryz.func153, Tryz.ntmps153
  go_wp2_with fail
  refine (begin_calls (HP.out.alloc (.cells #[.int .i64 0, .string ⟨#[]⟩, .int .i64 0, .slice none 0 0, .slice none 0 0] 38 (0, 0))) (by have := HO.out; omega) (by have := HO.out; omega)).mono ?_
  intro e w1 hp
  rw [if_neg (by have := HO.out; omega)] at hp
  obtain ⟨rfl, hb⟩ := hp
  have HBB := Aside0.mk hb
  clear hb
  go_wp2_with fail
  exact ⟨rfl, rfl, HBB.out⟩
 | succ d ih =>
  intro w k o ho hd h
  exact expr_step d (fun W k' hp => ih W k' (o + 1) (by omega) (by omega) hp) (by omega) (by omega) h hL
end
end Go.Proofs.YticndoihkfbpoaaGreatDoor
