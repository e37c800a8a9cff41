/- Package reread: statement. -/
import Derived.Test.YticndoihkfbpoaaGreatDoorUh
namespace Go.Proofs.YticndoihkfbpoaaGreatDoor
open Go Go.RowKit Go.Lib Go.Proofs.YticndoihkfbpoaaGreatDoorW.PrintWords Go.Proofs.YticndoihkfbpoaaGreatDoor.PScope
set_option maxRecDepth 100000
set_option linter.unusedSimpArgs false
set_option linter.unusedVariables false
theorem opnS_L : opnS.toList = [40] := by simp [opnS]
section
variable {w0 w : World} {g : Nat} {ws : List ByteArray} {k : Nat} {o : Int}
theorem szF {cs : List Value} (h : cs.length = kFS.sz) : (Tryz.prog.info? 41).map (·.size) = some cs.toArray.size := by
 rw [List.size_toArray, h]; rfl
theorem szF2 {cs : List Value} (h : cs.length = kFS.sz) : cs.toArray.size = (#[.int .i64 0, .string ⟨#[]⟩, .int .i64 0, .int .i64 0, .slice none 0 0, .int .i64 0, .string ⟨#[]⟩, .int .i64 0, .slice none 0 0, .slice none 0 0, .slice none 0 0, .slice none 0 0] : Array Value).size := by
 rw [List.size_toArray, h]; rfl
theorem one_fs {op pos fn : Int} {name : ByteArray} {a b c d e : Value} (h : ∀ u ∈ [a, b, c, d, e], u.oneCell' = true) : ∀ q ∈ (#[.int .i64 op, .string name, .int .i64 pos, .int .i64 fn, .slice none 0 0, a, b, c, d, e, .slice none 0 0, .slice none 0 0] : Array Value).toList, q.oneCell' = true := by
 intro q hq
 simp only [List.mem_cons, List.not_mem_nil, or_false] at hq
 rcases hq with rfl | rfl | rfl | rfl | rfl | rfl | rfl | rfl | rfl | rfl | rfl | rfl <;> first | rfl | (exact h _ (by simp))
set_option maxHeartbeats 8000000 in
theorem stmt_calls (blk : Rd (List FS)) (hbf : Fwd blk) (hb : ∀ (W : World) (k' : Nat), PS w0 W g ws k' o → Calls Tryz.prog 83 #[.pointer (some ⟨g, 0, none⟩)] W (POut (retB W.heap.size) w0 W g ws o (blk k')))
  (ex : Rd S38) (hfw : Fwd ex) (hex : ∀ (W : World) (k' : Nat), PS w0 W g ws k' o → Calls Tryz.prog 153 #[.pointer (some ⟨g, 0, none⟩)] W (POut (retE W.heap.size) w0 W g ws o (ex k'))) (h : PS w0 w g ws k o) (hL : LaidR w0) :
  Calls Tryz.prog 126 #[.pointer (some ⟨g, 0, none⟩)] w (POut (retF w.heap.size) w0 w g ws o (stmtR ws ex blk k)) := by
 have HX := Aside0.mk hex
 have HY := Aside0.mk hb
 have HFB := Aside0.mk hbf
 have HFE := Aside0.mk hfw
 have HU := Aside0.mk Tryz.underlying41
 have NE2 : Aside0 (w.heap.size ≠ g) := ⟨Nat.ne_of_gt h.lt⟩
 have NE3 : Aside0 (w.heap.size + 1 ≠ g) := ⟨by have := h.lt; omega⟩
 have LE2 : Aside0 (w0.heap.size ≤ w.heap.size) := ⟨h.be.size⟩
 have hmf := run_mkfn
 have HP := Aside0.mk h
 have HK := Aside0.mk (KeepBut.refl w g none)
 have HL := Aside0.mk hL
 obtain ⟨R, hR⟩ : ∃ R, stmtR ws ex blk k = R := ⟨_, rfl⟩
 rw [hR]
 unfold stmtR at hR
 have HRT := Aside0.mk hR
 clear hb hbf hex hfw h hL hR
 have B2 := Aside0.mk (blk_alloc (blk_new w (.cells #[.int .i64 0, .string ⟨#[]⟩, .int .i64 0, .int .i64 0, .slice none 0 0, .int .i64 0, .string ⟨#[]⟩, .int .i64 0, .slice none 0 0, .slice none 0 0, .slice none 0 0, .slice none 0 0] 41 (0, 0))) (.cells #[.int .i64 0, .string ⟨#[]⟩, .int .i64 0, .int .i64 0, .slice none 0 0, .int .i64 0, .string ⟨#[]⟩, .int .i64 0, .slice none 0 0, .slice none 0 0, .slice none 0 0, .slice none 0 0] 41 (0, 0)))
 have B3 := Aside0.mk (show ((w.alloc (.cells #[.int .i64 0, .string ⟨#[]⟩, .int .i64 0, .int .i64 0, .slice none 0 0, .int .i64 0, .string ⟨#[]⟩, .int .i64 0, .slice none 0 0, .slice none 0 0, .slice none 0 0, .slice none 0 0] 41 (0, 0))).alloc (.cells #[.int .i64 0, .string ⟨#[]⟩, .int .i64 0, .int .i64 0, .slice none 0 0, .int .i64 0, .string ⟨#[]⟩, .int .i64 0, .slice none 0 0, .slice none 0 0, .slice none 0 0, .slice none 0 0] 41 (0, 0))).heap[w.heap.size + 1]? = some (.cells #[.int .i64 0, .string ⟨#[]⟩, .int .i64 0, .int .i64 0, .slice none 0 0, .int .i64 0, .string ⟨#[]⟩, .int .i64 0, .slice none 0 0, .slice none 0 0, .slice none 0 0, .slice none 0 0] 41 (0, 0)) from by have := blk_new (w.alloc (.cells #[.int .i64 0, .string ⟨#[]⟩, .int .i64 0, .int .i64 0, .slice none 0 0, .int .i64 0, .string ⟨#[]⟩, .int .i64 0, .slice none 0 0, .slice none 0 0, .slice none 0 0, .slice none 0 0] 41 (0, 0))) (.cells #[.int .i64 0, .string ⟨#[]⟩, .int .i64 0, .int .i64 0, .slice none 0 0, .int .i64 0, .string ⟨#[]⟩, .int .i64 0, .slice none 0 0, .slice none 0 0, .slice none 0 0, .slice none 0 0] 41 (0, 0)); simpa using this)
 replace HP := Aside0.mk ((HP.out.alloc (.cells #[.int .i64 0, .string ⟨#[]⟩, .int .i64 0, .int .i64 0, .slice none 0 0, .int .i64 0, .string ⟨#[]⟩, .int .i64 0, .slice none 0 0, .slice none 0 0, .slice none 0 0, .slice none 0 0] 41 (0, 0))).alloc (.cells #[.int .i64 0, .string ⟨#[]⟩, .int .i64 0, .int .i64 0, .slice none 0 0, .int .i64 0, .string ⟨#[]⟩, .int .i64 0, .slice none 0 0, .slice none 0 0, .slice none 0 0, .slice none 0 0] 41 (0, 0)))
 replace HK := Aside0.mk (keep_alloc (keep_alloc HK.out (.cells #[.int .i64 0, .string ⟨#[]⟩, .int .i64 0, .int .i64 0, .slice none 0 0, .int .i64 0, .string ⟨#[]⟩, .int .i64 0, .slice none 0 0, .slice none 0 0, .slice none 0 0, .slice none 0 0] 41 (0, 0))) (.cells #[.int .i64 0, .string ⟨#[]⟩, .int .i64 0, .int .i64 0, .slice none 0 0, .int .i64 0, .string ⟨#[]⟩, .int .i64 0, .slice none 0 0, .slice none 0 0, .slice none 0 0, .slice none 0 0] 41 (0, 0)))
 go_enter Tryz.func126, Tryz.ntmps126
 go_wp2_with fail
 refine (takes_calls HP.out switchS).mono ?_
 rintro e w1 ⟨rfl, hp1, hk1⟩
 replace B2 := Aside0.mk (KeepBut.blk hk1 B2.out NE2.out (by simp))
 replace B3 := Aside0.mk (KeepBut.blk hk1 B3.out NE3.out (by simp))
 replace HK := Aside0.mk (KeepBut.trans HK.out hk1 (.inl rfl))
 replace HP := Aside0.mk hp1
 clear hp1 hk1
 cases ht : takesR ws switchS k with
 | true =>
  have hp := HP.out
  rw [ht, if_pos rfl] at hp
  replace HP := Aside0.mk hp
  clear hp
  have hR := HRT.out
  rw [ht, if_pos rfl] at hR
  replace HRT := Aside0.mk hR
  clear hR ht
  go_wp2_with fail
  have LWx := Aside0.mk (blk_lt B3.out)
  refine (choice_calls blk HFB.out HY.out HP.out HL.out).mono ?_
  intro e w2 hp
  have HR0 := HRT.out
  rw [HR0] at hp
  clear HR0
  unfold POut at hp
  cases R with
  | error f =>
   obtain ⟨rfl, hb⟩ := hp
   have HBB := Aside0.mk hb
   clear hb HRT
   go_wp2_with fail
   exact ⟨rfl, rfl, HBB.out⟩
  | ok x =>
  obtain ⟨x, kx⟩ := x
  dsimp only at hp
  obtain ⟨ux, rfl, ⟨cs, rfl, hm⟩, hp1, hk1⟩ := hp
  clear HRT
  replace B2 := Aside0.mk (KeepBut.blk hk1 B2.out NE2.out (by simp))
  replace B3 := Aside0.mk (KeepBut.blk hk1 B3.out NE3.out (by simp))
  replace HK := Aside0.mk (KeepBut.trans HK.out hk1 (.inl rfl))
  replace HP := Aside0.mk hp1
  clear hp1 hk1
  have hn := kFS.M_lower (base' := w.heap.size + 1) (by have := LWx.out; omega) hm
  have HM := Aside0.mk hn
  have hone := kFS.K_one (kFS.K_of_M hn)
  have hlen := kFS.K_len (kFS.K_of_M hn)
  have HONE := Aside0.mk hone
  have HLEN := Aside0.mk hlen
  clear hm hn hone hlen
  go_wp2_with ((with_reducible refine gate_store (t := 41) (p := 2) rfl ?_); refine store_whole rfl rfl 41 _ _ rfl w.heap.size _ 41 rfl B2.out cs.toArray rfl (szF HLEN.out) (szF2 HLEN.out) (fun q hq => HONE.out q (by simpa using hq)) ?_; intro wf hbf hgf; have HBF := Aside0.mk hbf; have HGF := Aside0.mk hgf; clear hbf hgf)
  refine bodyPost_ret (results_c1 rfl _ _ w.heap.size 41 _ (0, 0) _ rfl HBF.out HU.out rfl (szF HLEN.out)) rfl ?_
  exact POut.fin HP.out HK.out HGF.out NE2.out LE2.out (Nat.le_refl _) ⟨cs, rfl, kFS.M_lower (by omega) (M_grownb HM.out HGF.out)⟩
 | false =>
 have hp := HP.out
 rw [ht, if_neg Bool.false_ne_true] at hp
 replace HP := Aside0.mk hp
 clear hp
 have hR := HRT.out
 rw [ht, if_neg Bool.false_ne_true] at hR
 clear ht
 obtain ⟨RP, hRP⟩ : ∃ RP, plainR ws ex k = RP := ⟨_, rfl⟩
 rw [hRP] at hR
 replace HRT := Aside0.mk hR
 unfold plainR at hRP
 have HR := Aside0.mk hRP
 clear hR hRP
 go_wp2_with fail
 refine (takes_calls HP.out memS).mono ?_
 rintro e w2 ⟨rfl, hp1, hk1⟩
 replace B2 := Aside0.mk (KeepBut.blk hk1 B2.out NE2.out (by simp))
 replace B3 := Aside0.mk (KeepBut.blk hk1 B3.out NE3.out (by simp))
 replace HK := Aside0.mk (KeepBut.trans HK.out hk1 (.inl rfl))
 replace HP := Aside0.mk hp1
 clear hp1 hk1
 cases ht : takesR ws memS k with
 | true =>
  have hr := HR.out
  rw [ht, if_pos rfl] at hr
  replace HR := Aside0.mk hr
  have hp := HP.out
  rw [ht, if_pos rfl] at hp
  replace HP := Aside0.mk hp
  clear hp
  clear hr ht
  go_wp2_with fail
  refine (cell_calls HP.out HL.out).mono ?_
  intro e w3 hp
  unfold POut at hp
  cases h1 : cellR ws (k + 1) with
  | error f =>
   rw [h1] at hp
   have hr := HR.out
   rw [h1] at hr
   replace HR := Aside0.mk (show (.error f) = RP from hr)
   clear hr h1
   obtain ⟨rfl, hb⟩ := hp
   have HR2 := Aside0.mk (show R = .error f by rw [← HRT.out, ← HR.out])
   have HBB := Aside0.mk hb
   clear HR hb
   go_wp2_with fail
   exact ⟨rfl, by rw [HR2.out]; exact ⟨rfl, HBB.out⟩⟩
  | ok n =>
  obtain ⟨n, kn⟩ := n
  rw [h1] at hp
  dsimp only at hp
  obtain ⟨un, rfl, rfl, hp1, hk1⟩ := hp
  have hr := HR.out
  rw [h1] at hr
  dsimp only at hr
  replace HR := Aside0.mk hr
  clear hr h1
  replace B2 := Aside0.mk (KeepBut.blk hk1 B2.out NE2.out (by simp))
  replace B3 := Aside0.mk (KeepBut.blk hk1 B3.out NE3.out (by simp))
  replace HK := Aside0.mk (KeepBut.trans HK.out hk1 (.inl rfl))
  replace HP := Aside0.mk hp1
  clear hp1 hk1
  go_wp2_with fail
  refine (want_lits HP.out [eqS] (by decide) _ rfl 1 rfl).mono ?_
  intro e w4 hp
  unfold POut0 at hp
  try simp only [wantsR] at hp
  cases h1 : wantR ws eqS kn with
  | error f =>
   rw [h1] at hp
   have hr := HR.out
   rw [h1] at hr
   replace HR := Aside0.mk (show (.error f) = RP from hr)
   clear hr h1
   obtain ⟨rfl, hb⟩ := hp
   have HR2 := Aside0.mk (show R = .error f by rw [← HRT.out, ← HR.out])
   have HBB := Aside0.mk hb
   clear HR hb
   go_wp2_with fail
   exact ⟨rfl, by rw [HR2.out]; exact ⟨rfl, HBB.out⟩⟩
  | ok k4 =>
  rw [h1] at hp
  obtain ⟨rfl, hp1, hk1⟩ := hp
  have hr := HR.out
  rw [h1] at hr
  dsimp only at hr
  replace HR := Aside0.mk hr
  clear hr h1
  replace B2 := Aside0.mk (KeepBut.blk hk1 B2.out NE2.out (by simp))
  replace B3 := Aside0.mk (KeepBut.blk hk1 B3.out NE3.out (by simp))
  replace HK := Aside0.mk (KeepBut.trans HK.out hk1 (.inl rfl))
  replace HP := Aside0.mk hp1
  clear hp1 hk1
  go_wp2_with fail
  have LWx := Aside0.mk (blk_lt B3.out)
  refine (HX.out _ (k4) HP.out).mono ?_
  intro e w5 hp
  unfold POut at hp
  cases h1 : ex (k4) with
  | error f =>
   rw [h1] at hp
   have hr := HR.out
   rw [h1] at hr
   replace HR := Aside0.mk (show (.error f) = RP from hr)
   clear hr h1
   obtain ⟨rfl, hb⟩ := hp
   have HR2 := Aside0.mk (show R = .error f by rw [← HRT.out, ← HR.out])
   have HBB := Aside0.mk hb
   clear HR hb
   go_wp2_with fail
   exact ⟨rfl, by rw [HR2.out]; exact ⟨rfl, HBB.out⟩⟩
  | ok x =>
  obtain ⟨x, kx⟩ := x
  rw [h1] at hp
  dsimp only at hp
  obtain ⟨ux, rfl, retx, hp1, hk1⟩ := hp
  have hr := HR.out
  rw [h1] at hr
  dsimp only at hr
  replace HR := Aside0.mk hr
  clear hr h1
  replace B2 := Aside0.mk (KeepBut.blk hk1 B2.out NE2.out (by simp))
  replace B3 := Aside0.mk (KeepBut.blk hk1 B3.out NE3.out (by simp))
  replace HK := Aside0.mk (KeepBut.trans HK.out hk1 (.inl rfl))
  replace HP := Aside0.mk hp1
  clear hp1 hk1
  obtain ⟨csx, rfl, hmx⟩ := retx
  have hnx := kE.M_lower (base' := w.heap.size + 1 + 1) LWx.out hmx
  obtain ⟨v3x, v4x, rfl, _, _⟩ := k38_openM hnx
  have HMx := Aside0.mk hnx
  clear hmx hnx LWx
  go_wp2_with ((with_reducible refine gate_store (t := 41) (p := 3) rfl ?_); refine store_whole rfl rfl 41 _ _ rfl (w.heap.size + 1) _ 41 rfl B3.out _ rfl rfl rfl (one_fs (kE.K_one (kE.K_of_M HMx.out))) ?_; intro wa hbf hgf; have HBA := Aside0.mk hbf; have HGA := Aside0.mk hgf; clear hbf hgf)
  replace B2 := Aside0.mk ((HGA.out.block _ (blk_lt B2.out) (by intro e; injection e with e; omega)).trans B2.out)
  replace HP := Aside0.mk (HP.out.grown HGA.out NE3.out (by have := LE2.out; omega))
  replace HK := Aside0.mk (keep_grown HK.out HGA.out (by omega))
  replace HMx := Aside0.mk (M_grownb HMx.out HGA.out)
  replace B3 := HBA
  clear HGA HBA
  have HMS := Aside0.mk (show kFS.M wa (w.heap.size + 1 + 1) (fun _ => True) (.mk 2 es n 0 [] x [] []) [.int .i64 2, .string ⟨#[]⟩, .int .i64 n, .int .i64 0, .slice none 0 0, .int .i64 x.f0, .string x.f1, .int .i64 x.f2, v3x, v4x, .slice none 0 0, .slice none 0 0] from kFS_mkM wa _ _ (.mk 2 es n 0 [] x [] []) (Kd.R_nil _ _ _ _ _) HMx.out (Kd.R_nil _ _ _ _ _) (Kd.R_nil _ _ _ _ _))
  have hr := HRT.out
  rw [← HR.out] at hr
  dsimp only at hr
  replace HR := Aside0.mk hr
  clear hr
  refine (want_lits HP.out [semS] (by decide) _ rfl 1 rfl).mono ?_
  intro e w9 hp
  unfold POut0 at hp
  try simp only [wantsR] at hp
  cases h1 : wantR ws semS kx with
  | error f =>
   rw [h1] at hp
   have hr := HR.out
   rw [h1] at hr
   replace HR := Aside0.mk (show (.error f) = R from hr)
   clear hr h1
   obtain ⟨rfl, hb⟩ := hp
   have HR2 := Aside0.mk (show R = .error f from HR.out.symm)
   have HBB := Aside0.mk hb
   clear HR hb
   go_wp2_with fail
   exact ⟨rfl, by rw [HR2.out]; exact ⟨rfl, HBB.out⟩⟩
  | ok k9 =>
  rw [h1] at hp
  obtain ⟨rfl, hp1, hk1⟩ := hp
  have hr := HR.out
  rw [h1] at hr
  dsimp only at hr
  replace HR := Aside0.mk hr
  clear hr h1
  replace B2 := Aside0.mk (KeepBut.blk hk1 B2.out NE2.out (by simp))
  replace B3 := Aside0.mk (KeepBut.blk hk1 B3.out NE3.out (by simp))
  replace HMS := Aside0.mk (HP.out.keepM (by decide) HMS.out hk1)
  replace HK := Aside0.mk (KeepBut.trans HK.out hk1 (.inl rfl))
  replace HP := Aside0.mk hp1
  clear hp1 hk1
  have c3_0 := (blk_cell B3.out 0).trans rfl
  have c3_1 := (blk_cell B3.out 1).trans rfl
  have c3_2 := (blk_cell B3.out 2).trans rfl
  have c3_3 := (blk_cell B3.out 3).trans rfl
  have c3_4 := (blk_cell B3.out 4).trans rfl
  have c3_5 := (blk_cell B3.out 5).trans rfl
  have c3_6 := (blk_cell B3.out 6).trans rfl
  have c3_7 := (blk_cell B3.out 7).trans rfl
  have c3_8 := (blk_cell B3.out 8).trans rfl
  have c3_9 := (blk_cell B3.out 9).trans rfl
  have c3_10 := (blk_cell B3.out 10).trans rfl
  have c3_11 := (blk_cell B3.out 11).trans rfl
  go_wp2_with ((with_reducible refine gate_store (t := 41) (p := 2) rfl ?_); refine store_whole rfl rfl 41 _ _ rfl w.heap.size _ 41 rfl B2.out _ rfl rfl rfl (kFS.K_one (kFS.K_of_M HMS.out)) ?_; intro wf hbf hgf; have HBF := Aside0.mk hbf; have HGF := Aside0.mk hgf; clear hbf hgf)
  refine bodyPost_ret (results_c1 rfl _ _ w.heap.size 41 _ (0, 0) _ rfl HBF.out HU.out rfl rfl) rfl ?_
  rw [← HR.out]
  exact POut.fin HP.out HK.out HGF.out NE2.out LE2.out (Nat.le_refl _) ⟨_, rfl, kFS.M_lower (by omega) (M_grownb (kFS.M_lower (base' := w.heap.size + 1) (by omega) HMS.out) HGF.out)⟩
 | false =>
 have hr := HR.out
 rw [ht, if_neg Bool.false_ne_true] at hr
 replace HR := Aside0.mk hr
 have hp := HP.out
 rw [ht, if_neg Bool.false_ne_true] at hp
 replace HP := Aside0.mk hp
 clear hp
 clear hr ht
 go_wp2_with fail
 refine (takes_calls HP.out resetS).mono ?_
 rintro e w3 ⟨rfl, hp1, hk1⟩
 replace B2 := Aside0.mk (KeepBut.blk hk1 B2.out NE2.out (by simp))
 replace B3 := Aside0.mk (KeepBut.blk hk1 B3.out NE3.out (by simp))
 replace HK := Aside0.mk (KeepBut.trans HK.out hk1 (.inl rfl))
 replace HP := Aside0.mk hp1
 clear hp1 hk1
 cases ht : takesR ws resetS k with
 | true =>
  have hr := HR.out
  rw [ht, if_pos rfl] at hr
  replace HR := Aside0.mk hr
  have hp := HP.out
  rw [ht, if_pos rfl] at hp
  replace HP := Aside0.mk hp
  clear hp
  clear hr ht
  go_wp2_with fail
  refine (call_calls HP.out HL.out 4).mono ?_
  intro e w4 hp
  unfold POut at hp
  cases h1 : callR ws (k + 1) with
  | error f =>
   rw [h1] at hp
   have hr := HR.out
   rw [h1] at hr
   replace HR := Aside0.mk (show (.error f) = RP from hr)
   clear hr h1
   obtain ⟨rfl, hb⟩ := hp
   have HR2 := Aside0.mk (show R = .error f by rw [← HRT.out, ← HR.out])
   have HBB := Aside0.mk hb
   clear HR hb
   go_wp2_with fail
   exact ⟨rfl, by rw [HR2.out]; exact ⟨rfl, HBB.out⟩⟩
  | ok c =>
  obtain ⟨c, kc⟩ := c
  rw [h1] at hp
  dsimp only at hp
  obtain ⟨uc, rfl, rfl, hp1, hk1⟩ := hp
  have hr := HR.out
  rw [h1] at hr
  dsimp only at hr
  replace HR := Aside0.mk hr
  clear hr h1
  replace B2 := Aside0.mk (KeepBut.blk hk1 B2.out NE2.out (by simp))
  replace B3 := Aside0.mk (KeepBut.blk hk1 B3.out NE3.out (by simp))
  replace HK := Aside0.mk (KeepBut.trans HK.out hk1 (.inl rfl))
  replace HP := Aside0.mk hp1
  clear hp1 hk1
  obtain ⟨cf, cp⟩ := c
  go_wp2_with ((with_reducible refine gate_store (t := 41) (p := 3) rfl ?_); refine store_whole rfl rfl 41 _ _ rfl (w.heap.size + 1) _ 41 rfl B3.out _ rfl rfl rfl (by simp [Value.oneCell']) ?_; intro wa hbf hgf; have HBA := Aside0.mk hbf; have HGA := Aside0.mk hgf; clear hbf hgf)
  replace B2 := Aside0.mk ((HGA.out.block _ (blk_lt B2.out) (by intro e; injection e with e; omega)).trans B2.out)
  replace HP := Aside0.mk (HP.out.grown HGA.out NE3.out (by have := LE2.out; omega))
  replace HK := Aside0.mk (keep_grown HK.out HGA.out (by omega))
  replace B3 := HBA
  clear HGA HBA
  have HMS := Aside0.mk (M_fs_flat wa (w.heap.size + 1 + 1) 4 es cp cf)
  have hr := HRT.out
  rw [← HR.out] at hr
  dsimp only at hr
  replace HR := Aside0.mk hr
  clear hr
  refine (want_lits HP.out [semS] (by decide) _ rfl 1 rfl).mono ?_
  intro e w9 hp
  unfold POut0 at hp
  try simp only [wantsR] at hp
  cases h1 : wantR ws semS kc with
  | error f =>
   rw [h1] at hp
   have hr := HR.out
   rw [h1] at hr
   replace HR := Aside0.mk (show (.error f) = R from hr)
   clear hr h1
   obtain ⟨rfl, hb⟩ := hp
   have HR2 := Aside0.mk (show R = .error f from HR.out.symm)
   have HBB := Aside0.mk hb
   clear HR hb
   go_wp2_with fail
   exact ⟨rfl, by rw [HR2.out]; exact ⟨rfl, HBB.out⟩⟩
  | ok k9 =>
  rw [h1] at hp
  obtain ⟨rfl, hp1, hk1⟩ := hp
  have hr := HR.out
  rw [h1] at hr
  dsimp only at hr
  replace HR := Aside0.mk hr
  clear hr h1
  replace B2 := Aside0.mk (KeepBut.blk hk1 B2.out NE2.out (by simp))
  replace B3 := Aside0.mk (KeepBut.blk hk1 B3.out NE3.out (by simp))
  replace HMS := Aside0.mk (HP.out.keepM (by decide) HMS.out hk1)
  replace HK := Aside0.mk (KeepBut.trans HK.out hk1 (.inl rfl))
  replace HP := Aside0.mk hp1
  clear hp1 hk1
  have c3_0 := (blk_cell B3.out 0).trans rfl
  have c3_1 := (blk_cell B3.out 1).trans rfl
  have c3_2 := (blk_cell B3.out 2).trans rfl
  have c3_3 := (blk_cell B3.out 3).trans rfl
  have c3_4 := (blk_cell B3.out 4).trans rfl
  have c3_5 := (blk_cell B3.out 5).trans rfl
  have c3_6 := (blk_cell B3.out 6).trans rfl
  have c3_7 := (blk_cell B3.out 7).trans rfl
  have c3_8 := (blk_cell B3.out 8).trans rfl
  have c3_9 := (blk_cell B3.out 9).trans rfl
  have c3_10 := (blk_cell B3.out 10).trans rfl
  have c3_11 := (blk_cell B3.out 11).trans rfl
  go_wp2_with ((with_reducible refine gate_store (t := 41) (p := 2) rfl ?_); refine store_whole rfl rfl 41 _ _ rfl w.heap.size _ 41 rfl B2.out _ rfl rfl rfl (kFS.K_one (kFS.K_of_M HMS.out)) ?_; intro wf hbf hgf; have HBF := Aside0.mk hbf; have HGF := Aside0.mk hgf; clear hbf hgf)
  refine bodyPost_ret (results_c1 rfl _ _ w.heap.size 41 _ (0, 0) _ rfl HBF.out HU.out rfl rfl) rfl ?_
  rw [← HR.out]
  exact POut.fin HP.out HK.out HGF.out NE2.out LE2.out (Nat.le_refl _) ⟨_, rfl, kFS.M_lower (by omega) (M_grownb (kFS.M_lower (base' := w.heap.size + 1) (by omega) HMS.out) HGF.out)⟩
 | false =>
 have hr := HR.out
 rw [ht, if_neg Bool.false_ne_true] at hr
 replace HR := Aside0.mk hr
 have hp := HP.out
 rw [ht, if_neg Bool.false_ne_true] at hp
 replace HP := Aside0.mk hp
 clear hp
 clear hr ht
 go_wp2_with fail
 refine (next_calls HP.out).mono ?_
 rintro e w4 ⟨rfl, hp1, hk1⟩
 replace B2 := Aside0.mk (KeepBut.blk hk1 B2.out NE2.out (by simp))
 replace B3 := Aside0.mk (KeepBut.blk hk1 B3.out NE3.out (by simp))
 replace HK := Aside0.mk (KeepBut.trans HK.out hk1 (.inl rfl))
 replace HP := Aside0.mk hp1
 clear hp1 hk1
 generalize nextR ws k = s at HR ⊢
 cases hc : (s.toList == [40]) with
 | true =>
  have hs : s = opnS := ofL (eq_of_beq hc)
  have hr := HR.out
  rw [if_pos hs] at hr
  replace HR := Aside0.mk hr
  clear hr hs
  go_wp2_with fail
  clear hc
  have HSN := Aside0.mk (blk_lt B3.out)
  refine (listS_calls HP.out).mono ?_
  intro e w5 hp
  unfold POut at hp
  cases h1 : listR ws (nameR ws) k with
  | error f =>
   rw [h1] at hp
   have hr := HR.out
   rw [h1] at hr
   replace HR := Aside0.mk (show (.error f) = RP from hr)
   clear hr h1
   obtain ⟨rfl, hb⟩ := hp
   have HR2 := Aside0.mk (show R = .error f by rw [← HRT.out, ← HR.out])
   have HBB := Aside0.mk hb
   clear HR hb
   go_wp2_with fail
   exact ⟨rfl, by rw [HR2.out]; exact ⟨rfl, HBB.out⟩⟩
  | ok ns =>
  obtain ⟨ns, kns⟩ := ns
  rw [h1] at hp
  dsimp only at hp
  obtain ⟨uns, rfl, retns, hp1, hk1⟩ := hp
  have hr := HR.out
  rw [h1] at hr
  dsimp only at hr
  replace HR := Aside0.mk hr
  clear hr h1
  replace B2 := Aside0.mk (KeepBut.blk hk1 B2.out NE2.out (by simp))
  replace B3 := Aside0.mk (KeepBut.blk hk1 B3.out NE3.out (by simp))
  replace HK := Aside0.mk (KeepBut.trans HK.out hk1 (.inl rfl))
  replace HP := Aside0.mk hp1
  clear hp1 hk1
  obtain ⟨An, cn, rfl⟩ := Kd.R_slice retns
  have HNS := Aside0.mk (Kd.R_lower retns HSN.out)
  clear retns HSN
  go_wp2_with fail
  refine (want_lits HP.out [eqS, stepS] (by decide) _ rfl 2 rfl).mono ?_
  intro e w6 hp
  unfold POut0 at hp
  simp only [wantsR] at hp
  cases h1 : wantR ws eqS kns with
  | error f =>
   rw [h1] at hp
   have hr := HR.out
   rw [h1] at hr
   replace HR := Aside0.mk (show (.error f) = RP from hr)
   clear hr h1
   obtain ⟨rfl, hb⟩ := hp
   have HR2 := Aside0.mk (show R = .error f by rw [← HRT.out, ← HR.out])
   have HBB := Aside0.mk hb
   clear HR hb
   go_wp2_with fail
   exact ⟨rfl, by rw [HR2.out]; exact ⟨rfl, HBB.out⟩⟩
  | ok k5 =>
  have hr := HR.out
  rw [h1] at hr hp
  dsimp only at hr hp
  replace HR := Aside0.mk hr
  clear hr
  clear h1
  cases h1 : wantR ws stepS k5 with
  | error f =>
   rw [h1] at hp
   have hr := HR.out
   rw [h1] at hr
   replace HR := Aside0.mk (show (.error f) = RP from hr)
   clear hr h1
   obtain ⟨rfl, hb⟩ := hp
   have HR2 := Aside0.mk (show R = .error f by rw [← HRT.out, ← HR.out])
   have HBB := Aside0.mk hb
   clear HR hb
   go_wp2_with fail
   exact ⟨rfl, by rw [HR2.out]; exact ⟨rfl, HBB.out⟩⟩
  | ok k6 =>
  rw [h1] at hp
  obtain ⟨rfl, hp1, hk1⟩ := hp
  have hr := HR.out
  rw [h1] at hr
  dsimp only at hr
  replace HR := Aside0.mk hr
  clear hr h1
  replace B2 := Aside0.mk (KeepBut.blk hk1 B2.out NE2.out (by simp))
  replace B3 := Aside0.mk (KeepBut.blk hk1 B3.out NE3.out (by simp))
  replace HNS := Aside0.mk (HP.out.keepR (by decide) HNS.out hk1)
  replace HK := Aside0.mk (KeepBut.trans HK.out hk1 (.inl rfl))
  replace HP := Aside0.mk hp1
  clear hp1 hk1
  go_wp2_with fail
  refine (call_calls HP.out HL.out 3).mono ?_
  intro e w7 hp
  unfold POut at hp
  cases h1 : callR ws k6 with
  | error f =>
   rw [h1] at hp
   have hr := HR.out
   rw [h1] at hr
   replace HR := Aside0.mk (show (.error f) = RP from hr)
   clear hr h1
   obtain ⟨rfl, hb⟩ := hp
   have HR2 := Aside0.mk (show R = .error f by rw [← HRT.out, ← HR.out])
   have HBB := Aside0.mk hb
   clear HR hb
   go_wp2_with fail
   exact ⟨rfl, by rw [HR2.out]; exact ⟨rfl, HBB.out⟩⟩
  | ok c =>
  obtain ⟨c, kc⟩ := c
  rw [h1] at hp
  dsimp only at hp
  obtain ⟨uc, rfl, rfl, hp1, hk1⟩ := hp
  have hr := HR.out
  rw [h1] at hr
  dsimp only at hr
  replace HR := Aside0.mk hr
  clear hr h1
  replace B2 := Aside0.mk (KeepBut.blk hk1 B2.out NE2.out (by simp))
  replace B3 := Aside0.mk (KeepBut.blk hk1 B3.out NE3.out (by simp))
  replace HNS := Aside0.mk (HP.out.keepR (by decide) HNS.out hk1)
  replace HK := Aside0.mk (KeepBut.trans HK.out hk1 (.inl rfl))
  replace HP := Aside0.mk hp1
  clear hp1 hk1
  obtain ⟨cf, cp⟩ := c
  go_wp2_with ((with_reducible refine gate_store (t := 41) (p := 3) rfl ?_); refine store_whole rfl rfl 41 _ _ rfl (w.heap.size + 1) _ 41 rfl B3.out _ rfl rfl rfl (by simp [Value.oneCell']) ?_; intro wa hbf hgf; have HBA := Aside0.mk hbf; have HGA := Aside0.mk hgf; clear hbf hgf; replace B2 := Aside0.mk ((HGA.out.block _ (blk_lt B2.out) (by intro e; injection e with e; omega)).trans B2.out); replace HP := Aside0.mk (HP.out.grown HGA.out NE3.out (by have := LE2.out; omega)); replace HK := Aside0.mk (keep_grown HK.out HGA.out (by omega)); replace HNS := Aside0.mk (R_grownb HNS.out HGA.out); replace B3 := HBA; clear HGA HBA; have c4 := (blk_cell B3.out 4).trans rfl; have f4 := blk_frozen B3.out 4)
  clear c4 f4
  replace B3 := Aside0.mk (show (wa.setCell ⟨w.heap.size + 1, 4, none⟩ (.slice An ns.length cn)).heap[w.heap.size + 1]? = some (.cells #[.int .i64 3, .string ⟨#[]⟩, .int .i64 cp, .int .i64 cf, .slice An ns.length cn, .int .i64 0, .string ⟨#[]⟩, .int .i64 0, .slice none 0 0, .slice none 0 0, .slice none 0 0, .slice none 0 0] 41 (0, 0)) from blk_put (cs := #[.int .i64 3, .string ⟨#[]⟩, .int .i64 cp, .int .i64 cf, .slice none 0 0, .int .i64 0, .string ⟨#[]⟩, .int .i64 0, .slice none 0 0, .slice none 0 0, .slice none 0 0, .slice none 0 0]) B3.out 4 (.slice An ns.length cn) rfl)
  replace B2 := Aside0.mk (blk_far (p := ⟨w.heap.size + 1, 4, none⟩) B2.out (by show w.heap.size ≠ w.heap.size + 1; omega) (.slice An ns.length cn))
  replace HNS := Aside0.mk (R_setb HNS.out 4 (.slice An ns.length cn))
  replace HP := Aside0.mk (HP.out.set_far NE3.out (by have := LE2.out; omega) 4 (.slice An ns.length cn))
  replace HK := Aside0.mk (keep_set_far (w := w) (b := w.heap.size + 1) HK.out (by omega) 4 (.slice An ns.length cn))
  have HSA := Aside0.mk (blk_lt B3.out)
  refine (listE_calls ex HFE.out HX.out HP.out).mono ?_
  intro e w8 hp
  unfold POut at hp
  cases h1 : listR ws ex kc with
  | error f =>
   rw [h1] at hp
   have hr := HR.out
   rw [h1] at hr
   replace HR := Aside0.mk (show (.error f) = RP from hr)
   clear hr h1
   obtain ⟨rfl, hb⟩ := hp
   have HR2 := Aside0.mk (show R = .error f by rw [← HRT.out, ← HR.out])
   have HBB := Aside0.mk hb
   clear HR hb
   go_wp2_with fail
   exact ⟨rfl, by rw [HR2.out]; exact ⟨rfl, HBB.out⟩⟩
  | ok ar =>
  obtain ⟨ar, kar⟩ := ar
  rw [h1] at hp
  dsimp only at hp
  obtain ⟨uar, rfl, retar, hp1, hk1⟩ := hp
  have hr := HR.out
  rw [h1] at hr
  dsimp only at hr
  replace HR := Aside0.mk hr
  clear hr h1
  replace B2 := Aside0.mk (KeepBut.blk hk1 B2.out NE2.out (by simp))
  replace B3 := Aside0.mk (KeepBut.blk hk1 B3.out NE3.out (by simp))
  replace HNS := Aside0.mk (HP.out.keepR (by decide) HNS.out hk1)
  replace HK := Aside0.mk (KeepBut.trans HK.out hk1 (.inl rfl))
  replace HP := Aside0.mk hp1
  clear hp1 hk1
  obtain ⟨Aa, ca, rfl⟩ := Kd.R_slice retar
  have HAS := Aside0.mk (Kd.R_lower (base' := w.heap.size + 1 + 1) retar HSA.out)
  clear retar HSA
  have c10 := (blk_cell B3.out 10).trans rfl
  have f10 := blk_frozen B3.out 10
  go_wp2_with fail
  clear c10 f10
  replace B3 := Aside0.mk (show (w8.setCell ⟨w.heap.size + 1, 10, none⟩ (.slice Aa ar.length ca)).heap[w.heap.size + 1]? = some (.cells #[.int .i64 3, .string ⟨#[]⟩, .int .i64 cp, .int .i64 cf, .slice An ns.length cn, .int .i64 0, .string ⟨#[]⟩, .int .i64 0, .slice none 0 0, .slice none 0 0, .slice Aa ar.length ca, .slice none 0 0] 41 (0, 0)) from blk_put (cs := #[.int .i64 3, .string ⟨#[]⟩, .int .i64 cp, .int .i64 cf, .slice An ns.length cn, .int .i64 0, .string ⟨#[]⟩, .int .i64 0, .slice none 0 0, .slice none 0 0, .slice none 0 0, .slice none 0 0]) B3.out 10 (.slice Aa ar.length ca) rfl)
  replace B2 := Aside0.mk (blk_far (p := ⟨w.heap.size + 1, 10, none⟩) B2.out (by show w.heap.size ≠ w.heap.size + 1; omega) (.slice Aa ar.length ca))
  replace HNS := Aside0.mk (R_setb HNS.out 10 (.slice Aa ar.length ca))
  replace HAS := Aside0.mk (R_setb HAS.out 10 (.slice Aa ar.length ca))
  replace HP := Aside0.mk (HP.out.set_far NE3.out (by have := LE2.out; omega) 10 (.slice Aa ar.length ca))
  replace HK := Aside0.mk (keep_set_far (w := w) (b := w.heap.size + 1) HK.out (by omega) 10 (.slice Aa ar.length ca))
  have HMS := Aside0.mk (show kFS.M (w8.setCell ⟨w.heap.size + 1, 10, none⟩ (.slice Aa ar.length ca)) (w.heap.size + 1 + 1) (fun _ => True) (.mk 3 es cp cf ns zE ar []) [.int .i64 3, .string ⟨#[]⟩, .int .i64 cp, .int .i64 cf, .slice An ns.length cn, .int .i64 0, .string ⟨#[]⟩, .int .i64 0, .slice none 0 0, .slice none 0 0, .slice Aa ar.length ca, .slice none 0 0] from kFS_mkM _ _ _ (.mk 3 es cp cf ns zE ar []) HNS.out (M_expr_flat _ _ 0 es 0) HAS.out (Kd.R_nil _ _ _ _ _))
  have hr := HRT.out
  rw [← HR.out] at hr
  dsimp only at hr
  replace HR := Aside0.mk hr
  clear hr
  refine (want_lits_at HP.out [semS] (by decide) _ rfl 1 rfl w8.heap.size (by simp)).mono ?_
  intro e w9 hp
  unfold POut0 at hp
  try simp only [wantsR] at hp
  cases h1 : wantR ws semS kar with
  | error f =>
   rw [h1] at hp
   have hr := HR.out
   rw [h1] at hr
   replace HR := Aside0.mk (show (.error f) = R from hr)
   clear hr h1
   obtain ⟨rfl, hb⟩ := hp
   have HR2 := Aside0.mk (show R = .error f from HR.out.symm)
   have HBB := Aside0.mk hb
   clear HR hb
   go_wp2_with fail
   exact ⟨rfl, by rw [HR2.out]; exact ⟨rfl, HBB.out⟩⟩
  | ok k9 =>
  rw [h1] at hp
  obtain ⟨rfl, hp1, hk1⟩ := hp
  have hr := HR.out
  rw [h1] at hr
  dsimp only at hr
  replace HR := Aside0.mk hr
  clear hr h1
  replace B2 := Aside0.mk (KeepBut.blk hk1 B2.out NE2.out (by simp))
  replace B3 := Aside0.mk (KeepBut.blk hk1 B3.out NE3.out (by simp))
  replace HMS := Aside0.mk (HP.out.keepM (by decide) HMS.out hk1)
  replace HK := Aside0.mk (KeepBut.trans HK.out hk1 (.inl rfl))
  replace HP := Aside0.mk hp1
  clear hp1 hk1
  have c3_0 := (blk_cell B3.out 0).trans rfl
  have c3_1 := (blk_cell B3.out 1).trans rfl
  have c3_2 := (blk_cell B3.out 2).trans rfl
  have c3_3 := (blk_cell B3.out 3).trans rfl
  have c3_4 := (blk_cell B3.out 4).trans rfl
  have c3_5 := (blk_cell B3.out 5).trans rfl
  have c3_6 := (blk_cell B3.out 6).trans rfl
  have c3_7 := (blk_cell B3.out 7).trans rfl
  have c3_8 := (blk_cell B3.out 8).trans rfl
  have c3_9 := (blk_cell B3.out 9).trans rfl
  have c3_10 := (blk_cell B3.out 10).trans rfl
  have c3_11 := (blk_cell B3.out 11).trans rfl
  go_wp2_with ((with_reducible refine gate_store (t := 41) (p := 2) rfl ?_); refine store_whole rfl rfl 41 _ _ rfl w.heap.size _ 41 rfl B2.out _ rfl rfl rfl (kFS.K_one (kFS.K_of_M HMS.out)) ?_; intro wf hbf hgf; have HBF := Aside0.mk hbf; have HGF := Aside0.mk hgf; clear hbf hgf)
  refine bodyPost_ret (results_c1 rfl _ _ w.heap.size 41 _ (0, 0) _ rfl HBF.out HU.out rfl rfl) rfl ?_
  rw [← HR.out]
  exact POut.fin HP.out HK.out HGF.out NE2.out LE2.out (Nat.le_refl _) ⟨_, rfl, kFS.M_lower (by omega) (M_grownb (kFS.M_lower (base' := w.heap.size + 1) (by omega) HMS.out) HGF.out)⟩
 | false =>
 have hs : ¬ s = opnS := fun e => by rw [e, opnS_L] at hc; cases hc
 have hr := HR.out
 rw [if_neg hs] at hr
 replace HR := Aside0.mk hr
 clear hr hs
 go_wp2_with fail
 clear hc
 refine (name_calls HP.out).mono ?_
 intro e w5 hp
 unfold POut at hp
 cases h1 : nameR ws k with
 | error f =>
  rw [h1] at hp
  have hr := HR.out
  rw [h1] at hr
  replace HR := Aside0.mk (show (.error f) = RP from hr)
  clear hr h1
  obtain ⟨rfl, hb⟩ := hp
  have HR2 := Aside0.mk (show R = .error f by rw [← HRT.out, ← HR.out])
  have HBB := Aside0.mk hb
  clear HR hb
  go_wp2_with fail
  exact ⟨rfl, by rw [HR2.out]; exact ⟨rfl, HBB.out⟩⟩
 | ok q =>
 obtain ⟨q, kq⟩ := q
 rw [h1] at hp
 dsimp only at hp
 obtain ⟨uq, rfl, rfl, hp1, hk1⟩ := hp
 have hr := HR.out
 rw [h1] at hr
 dsimp only at hr
 replace HR := Aside0.mk hr
 clear hr h1
 replace B2 := Aside0.mk (KeepBut.blk hk1 B2.out NE2.out (by simp))
 replace B3 := Aside0.mk (KeepBut.blk hk1 B3.out NE3.out (by simp))
 replace HK := Aside0.mk (KeepBut.trans HK.out hk1 (.inl rfl))
 replace HP := Aside0.mk hp1
 clear hp1 hk1
 go_wp2_with fail
 refine (want_lits HP.out [eqS] (by decide) _ rfl 1 rfl).mono ?_
 intro e w6 hp
 unfold POut0 at hp
 try simp only [wantsR] at hp
 cases h1 : wantR ws eqS kq with
 | error f =>
  rw [h1] at hp
  have hr := HR.out
  rw [h1] at hr
  replace HR := Aside0.mk (show (.error f) = RP from hr)
  clear hr h1
  obtain ⟨rfl, hb⟩ := hp
  have HR2 := Aside0.mk (show R = .error f by rw [← HRT.out, ← HR.out])
  have HBB := Aside0.mk hb
  clear HR hb
  go_wp2_with fail
  exact ⟨rfl, by rw [HR2.out]; exact ⟨rfl, HBB.out⟩⟩
 | ok k6 =>
 rw [h1] at hp
 obtain ⟨rfl, hp1, hk1⟩ := hp
 have hr := HR.out
 rw [h1] at hr
 dsimp only at hr
 replace HR := Aside0.mk hr
 clear hr h1
 replace B2 := Aside0.mk (KeepBut.blk hk1 B2.out NE2.out (by simp))
 replace B3 := Aside0.mk (KeepBut.blk hk1 B3.out NE3.out (by simp))
 replace HK := Aside0.mk (KeepBut.trans HK.out hk1 (.inl rfl))
 replace HP := Aside0.mk hp1
 clear hp1 hk1
 go_wp2_with fail
 have LWx := Aside0.mk (blk_lt B3.out)
 refine (HX.out _ (k6) HP.out).mono ?_
 intro e w7 hp
 unfold POut at hp
 cases h1 : ex (k6) with
 | error f =>
  rw [h1] at hp
  have hr := HR.out
  rw [h1] at hr
  replace HR := Aside0.mk (show (.error f) = RP from hr)
  clear hr h1
  obtain ⟨rfl, hb⟩ := hp
  have HR2 := Aside0.mk (show R = .error f by rw [← HRT.out, ← HR.out])
  have HBB := Aside0.mk hb
  clear HR hb
  go_wp2_with fail
  exact ⟨rfl, by rw [HR2.out]; exact ⟨rfl, HBB.out⟩⟩
 | ok x =>
 obtain ⟨x, kx⟩ := x
 rw [h1] at hp
 dsimp only at hp
 obtain ⟨ux, rfl, retx, hp1, hk1⟩ := hp
 have hr := HR.out
 rw [h1] at hr
 dsimp only at hr
 replace HR := Aside0.mk hr
 clear hr h1
 replace B2 := Aside0.mk (KeepBut.blk hk1 B2.out NE2.out (by simp))
 replace B3 := Aside0.mk (KeepBut.blk hk1 B3.out NE3.out (by simp))
 replace HK := Aside0.mk (KeepBut.trans HK.out hk1 (.inl rfl))
 replace HP := Aside0.mk hp1
 clear hp1 hk1
 obtain ⟨csx, rfl, hmx⟩ := retx
 have hnx := kE.M_lower (base' := w.heap.size + 1 + 1) LWx.out hmx
 obtain ⟨v3x, v4x, rfl, _, _⟩ := k38_openM hnx
 have HMx := Aside0.mk hnx
 clear hmx hnx LWx
 go_wp2_with ((with_reducible refine gate_store (t := 41) (p := 3) rfl ?_); refine store_whole rfl rfl 41 _ _ rfl (w.heap.size + 1) _ 41 rfl B3.out _ rfl rfl rfl (one_fs (kE.K_one (kE.K_of_M HMx.out))) ?_; intro wa hbf hgf; have HBA := Aside0.mk hbf; have HGA := Aside0.mk hgf; clear hbf hgf)
 replace B2 := Aside0.mk ((HGA.out.block _ (blk_lt B2.out) (by intro e; injection e with e; omega)).trans B2.out)
 replace HP := Aside0.mk (HP.out.grown HGA.out NE3.out (by have := LE2.out; omega))
 replace HK := Aside0.mk (keep_grown HK.out HGA.out (by omega))
 replace HMx := Aside0.mk (M_grownb HMx.out HGA.out)
 replace B3 := HBA
 clear HGA HBA
 have HMS := Aside0.mk (show kFS.M wa (w.heap.size + 1 + 1) (fun _ => True) (.mk 1 q 0 0 [] x [] []) [.int .i64 1, .string q, .int .i64 0, .int .i64 0, .slice none 0 0, .int .i64 x.f0, .string x.f1, .int .i64 x.f2, v3x, v4x, .slice none 0 0, .slice none 0 0] from kFS_mkM wa _ _ (.mk 1 q 0 0 [] x [] []) (Kd.R_nil _ _ _ _ _) HMx.out (Kd.R_nil _ _ _ _ _) (Kd.R_nil _ _ _ _ _))
 have hr := HRT.out
 rw [← HR.out] at hr
 dsimp only at hr
 replace HR := Aside0.mk hr
 clear hr
 refine (want_lits HP.out [semS] (by decide) _ rfl 1 rfl).mono ?_
 intro e w9 hp
 unfold POut0 at hp
 try simp only [wantsR] at hp
 cases h1 : wantR ws semS kx with
 | error f =>
  rw [h1] at hp
  have hr := HR.out
  rw [h1] at hr
  replace HR := Aside0.mk (show (.error f) = R from hr)
  clear hr h1
  obtain ⟨rfl, hb⟩ := hp
  have HR2 := Aside0.mk (show R = .error f from HR.out.symm)
  have HBB := Aside0.mk hb
  clear HR hb
  go_wp2_with fail
  exact ⟨rfl, by rw [HR2.out]; exact ⟨rfl, HBB.out⟩⟩
 | ok k9 =>
 rw [h1] at hp
 obtain ⟨rfl, hp1, hk1⟩ := hp
 have hr := HR.out
 rw [h1] at hr
 dsimp only at hr
 replace HR := Aside0.mk hr
 clear hr h1
 replace B2 := Aside0.mk (KeepBut.blk hk1 B2.out NE2.out (by simp))
 replace B3 := Aside0.mk (KeepBut.blk hk1 B3.out NE3.out (by simp))
 replace HMS := Aside0.mk (HP.out.keepM (by decide) HMS.out hk1)
 replace HK := Aside0.mk (KeepBut.trans HK.out hk1 (.inl rfl))
 replace HP := Aside0.mk hp1
 clear hp1 hk1
 have c3_0 := (blk_cell B3.out 0).trans rfl
 have c3_1 := (blk_cell B3.out 1).trans rfl
 have c3_2 := (blk_cell B3.out 2).trans rfl
 have c3_3 := (blk_cell B3.out 3).trans rfl
 have c3_4 := (blk_cell B3.out 4).trans rfl
 have c3_5 := (blk_cell B3.out 5).trans rfl
 have c3_6 := (blk_cell B3.out 6).trans rfl
 have c3_7 := (blk_cell B3.out 7).trans rfl
 have c3_8 := (blk_cell B3.out 8).trans rfl
 have c3_9 := (blk_cell B3.out 9).trans rfl
 have c3_10 := (blk_cell B3.out 10).trans rfl
 have c3_11 := (blk_cell B3.out 11).trans rfl
 go_wp2_with ((with_reducible refine gate_store (t := 41) (p := 2) rfl ?_); refine store_whole rfl rfl 41 _ _ rfl w.heap.size _ 41 rfl B2.out _ rfl rfl rfl (kFS.K_one (kFS.K_of_M HMS.out)) ?_; intro wf hbf hgf; have HBF := Aside0.mk hbf; have HGF := Aside0.mk hgf; clear hbf hgf)
 refine bodyPost_ret (results_c1 rfl _ _ w.heap.size 41 _ (0, 0) _ rfl HBF.out HU.out rfl rfl) rfl ?_
 rw [← HR.out]
 exact POut.fin HP.out HK.out HGF.out NE2.out LE2.out (Nat.le_refl _) ⟨_, rfl, kFS.M_lower (by omega) (M_grownb (kFS.M_lower (base' := w.heap.size + 1) (by omega) HMS.out) HGF.out)⟩
end
end Go.Proofs.YticndoihkfbpoaaGreatDoor
