/- Package reread: function. -/
import Derived.Test.YticndoihkfbpoaaGreatDoorUk
namespace Go.Proofs.YticndoihkfbpoaaGreatDoor
open Go Go.RowKit Go.Lib Go.Proofs.YticndoihkfbpoaaGreatDoorW.PrintWords Go.Proofs.YticndoihkfbpoaaGreatDoor.PScope
set_option maxRecDepth 100000
set_option linter.unusedSimpArgs false
set_option linter.unusedVariables false
section
variable {w0 w : World} {g : Nat} {ws : List ByteArray} {k : Nat} {o : Int}
theorem flags_eg : ∀ args w, (callFunc 81 args).run Tryz.prog w = .ok (.enter 81 args) w := enters_of Tryz.func81 (by kernel_rfl) rfl
theorem parts_eg : ∀ args w, (callFunc 82 args).run Tryz.prog w = .ok (.enter 82 args) w := enters_of Tryz.func82 (by kernel_rfl) rfl
abbrev retFn (b : Nat) : World → FF → Value → Prop := fun w' x u => ∃ cs, u = .agg cs.toArray ∧ kFF.M w' b (fun _ => True) x cs
set_option maxHeartbeats 8000000 in
theorem func_calls (h : PS w0 w g ws k 0) (hL : LaidR w0) :
  Calls Tryz.prog 55 #[.pointer (some ⟨g, 0, none⟩)] w (POut (retFn w.heap.size) w0 w g ws 0 (funcR ws k)) := by
 have HU := Aside0.mk Tryz.underlying35
 have NEx : Aside0 (w.heap.size ≠ g) := ⟨Nat.ne_of_gt h.lt⟩
 have NE2 : Aside0 (w.heap.size + 1 ≠ g) := ⟨by have := h.lt; omega⟩
 have NE3 : Aside0 (w.heap.size + 2 ≠ g) := ⟨by have := h.lt; omega⟩
 have LE2 : Aside0 (w0.heap.size ≤ w.heap.size) := ⟨h.be.size⟩
 have hmf := run_mkfn
 have HP := Aside0.mk h
 have HK := Aside0.mk (KeepBut.refl w g none)
 obtain ⟨R, hR⟩ : ∃ R, funcR ws k = R := ⟨_, rfl⟩
 rw [hR]
 unfold funcR at hR
 have HR := Aside0.mk hR
 clear h hR
 have HL := Aside0.mk hL
 clear hL
 have BX := Aside0.mk (blk_alloc (blk_alloc (blk_new w (.cells #[.pointer (some ⟨g, 0, none⟩)] 95 (0, 0))) (.cells #[.slice none 0 0, .slice none 0 0, .int .i64 0, .slice none 0 0, .slice none 0 0, .slice none 0 0] 35 (0, 0))) (.cells #[.slice none 0 0, .slice none 0 0, .int .i64 0, .slice none 0 0, .slice none 0 0, .slice none 0 0] 35 (0, 0)))
 have B2 := Aside0.mk (show (((w.alloc (.cells #[.pointer (some ⟨g, 0, none⟩)] 95 (0, 0))).alloc (.cells #[.slice none 0 0, .slice none 0 0, .int .i64 0, .slice none 0 0, .slice none 0 0, .slice none 0 0] 35 (0, 0))).alloc (.cells #[.slice none 0 0, .slice none 0 0, .int .i64 0, .slice none 0 0, .slice none 0 0, .slice none 0 0] 35 (0, 0))).heap[w.heap.size + 1]? = some (.cells #[.slice none 0 0, .slice none 0 0, .int .i64 0, .slice none 0 0, .slice none 0 0, .slice none 0 0] 35 (0, 0)) from by have := blk_alloc (blk_new (w.alloc (.cells #[.pointer (some ⟨g, 0, none⟩)] 95 (0, 0))) (.cells #[.slice none 0 0, .slice none 0 0, .int .i64 0, .slice none 0 0, .slice none 0 0, .slice none 0 0] 35 (0, 0))) (.cells #[.slice none 0 0, .slice none 0 0, .int .i64 0, .slice none 0 0, .slice none 0 0, .slice none 0 0] 35 (0, 0)); simpa using this)
 have B3 := Aside0.mk (show (((w.alloc (.cells #[.pointer (some ⟨g, 0, none⟩)] 95 (0, 0))).alloc (.cells #[.slice none 0 0, .slice none 0 0, .int .i64 0, .slice none 0 0, .slice none 0 0, .slice none 0 0] 35 (0, 0))).alloc (.cells #[.slice none 0 0, .slice none 0 0, .int .i64 0, .slice none 0 0, .slice none 0 0, .slice none 0 0] 35 (0, 0))).heap[w.heap.size + 2]? = some (.cells #[.slice none 0 0, .slice none 0 0, .int .i64 0, .slice none 0 0, .slice none 0 0, .slice none 0 0] 35 (0, 0)) from by have := blk_new ((w.alloc (.cells #[.pointer (some ⟨g, 0, none⟩)] 95 (0, 0))).alloc (.cells #[.slice none 0 0, .slice none 0 0, .int .i64 0, .slice none 0 0, .slice none 0 0, .slice none 0 0] 35 (0, 0))) (.cells #[.slice none 0 0, .slice none 0 0, .int .i64 0, .slice none 0 0, .slice none 0 0, .slice none 0 0] 35 (0, 0)); simpa using this)
 replace HP := Aside0.mk (((HP.out.alloc (.cells #[.pointer (some ⟨g, 0, none⟩)] 95 (0, 0))).alloc (.cells #[.slice none 0 0, .slice none 0 0, .int .i64 0, .slice none 0 0, .slice none 0 0, .slice none 0 0] 35 (0, 0))).alloc (.cells #[.slice none 0 0, .slice none 0 0, .int .i64 0, .slice none 0 0, .slice none 0 0, .slice none 0 0] 35 (0, 0)))
 replace HK := Aside0.mk (keep_alloc (keep_alloc (keep_alloc HK.out (.cells #[.pointer (some ⟨g, 0, none⟩)] 95 (0, 0))) (.cells #[.slice none 0 0, .slice none 0 0, .int .i64 0, .slice none 0 0, .slice none 0 0, .slice none 0 0] 35 (0, 0))) (.cells #[.slice none 0 0, .slice none 0 0, .int .i64 0, .slice none 0 0, .slice none 0 0, .slice none 0 0] 35 (0, 0)))
 have cx := (blk_cell BX.out 0).trans rfl
 go_enter Tryz.func55, Tryz.ntmps55
 go_wp2_with fail
 clear cx
 refine (want_lits_at HP.out [funS] (by decide) _ rfl 1 rfl (w.heap.size + 1 + 1 + 1) (by simp)).mono ?_
 intro e w1 hp
 unfold POut0 at hp
 try simp only [wantsR] at hp
 cases h1 : wantR ws funS k with
 | error f =>
  rw [h1] at hp
  have hr := HR.out
  rw [h1] at hr
  replace HR := Aside0.mk (show (.error f) = R from hr)
  clear hr h1
  obtain ⟨rfl, hb⟩ := hp
  have HR2 := Aside0.mk (show R = .error f from HR.out.symm)
  have HBB := Aside0.mk hb
  clear HR hb
  go_wp2_with fail
  exact ⟨rfl, by rw [HR2.out]; exact ⟨rfl, HBB.out⟩⟩
 | ok k1 =>
 rw [h1] at hp
 obtain ⟨rfl, hp1, hk1⟩ := hp
 have hr := HR.out
 rw [h1] at hr
 dsimp only at hr
 replace HR := Aside0.mk hr
 clear hr h1
 replace BX := Aside0.mk (KeepBut.blk hk1 BX.out NEx.out (by simp))
 replace B2 := Aside0.mk (KeepBut.blk hk1 B2.out NE2.out (by simp))
 replace B3 := Aside0.mk (KeepBut.blk hk1 B3.out NE3.out (by simp))
 replace HK := Aside0.mk (KeepBut.trans HK.out hk1 (.inl rfl))
 replace HP := Aside0.mk hp1
 clear hp1 hk1
 have cx := (blk_cell BX.out 0).trans rfl
 go_wp2_with fail
 clear cx
 have HSZ := Aside0.mk (blk_lt B3.out)
 refine (listS_calls HP.out).mono ?_
 intro e w2 hp
 unfold POut at hp
 cases h1 : listR ws (nameR ws) k1 with
 | error f =>
  rw [h1] at hp
  have hr := HR.out
  rw [h1] at hr
  replace HR := Aside0.mk (show (.error f) = R from hr)
  clear hr h1
  obtain ⟨rfl, hb⟩ := hp
  have HR2 := Aside0.mk (show R = .error f from HR.out.symm)
  have HBB := Aside0.mk hb
  clear HR hb
  go_wp2_with fail
  exact ⟨rfl, by rw [HR2.out]; exact ⟨rfl, HBB.out⟩⟩
 | ok ps =>
 obtain ⟨ps, kps⟩ := ps
 rw [h1] at hp
 dsimp only at hp
 obtain ⟨ups, rfl, retps, hp1, hk1⟩ := hp
 have hr := HR.out
 rw [h1] at hr
 dsimp only at hr
 replace HR := Aside0.mk hr
 clear hr h1
 replace BX := Aside0.mk (KeepBut.blk hk1 BX.out NEx.out (by simp))
 replace B2 := Aside0.mk (KeepBut.blk hk1 B2.out NE2.out (by simp))
 replace B3 := Aside0.mk (KeepBut.blk hk1 B3.out NE3.out (by simp))
 replace HK := Aside0.mk (KeepBut.trans HK.out hk1 (.inl rfl))
 replace HP := Aside0.mk hp1
 clear hp1 hk1
 obtain ⟨Ap, cp, rfl⟩ := Kd.R_slice retps
 have HPS := Aside0.mk (Kd.R_lower (base' := w.heap.size + 2 + 1) retps HSZ.out)
 clear retps HSZ
 have c3_ := (blk_cell B3.out 0).trans rfl
 have f3_ := blk_frozen B3.out 0
 have cx := (blk_cell BX.out 0).trans rfl
 have BXq := Aside0.mk (blk_far (p := ⟨w.heap.size + 2, 0, none⟩) BX.out (by show w.heap.size ≠ w.heap.size + 2; omega) (.slice Ap ps.length cp))
 have cxq := (blk_cell BXq.out 0).trans rfl
 go_wp2_with fail
 clear cx c3_ f3_ cxq BXq
 replace B3 := Aside0.mk (show (w2.setCell ⟨w.heap.size + 2, 0, none⟩ (.slice Ap ps.length cp)).heap[w.heap.size + 2]? = some (.cells #[.slice Ap ps.length cp, .slice none 0 0, .int .i64 0, .slice none 0 0, .slice none 0 0, .slice none 0 0] 35 (0, 0)) from blk_put (cs := #[.slice none 0 0, .slice none 0 0, .int .i64 0, .slice none 0 0, .slice none 0 0, .slice none 0 0]) B3.out 0 (.slice Ap ps.length cp) rfl)
 replace B2 := Aside0.mk (blk_far (p := ⟨w.heap.size + 2, 0, none⟩) B2.out (by show w.heap.size + 1 ≠ w.heap.size + 2; omega) (.slice Ap ps.length cp))
 replace BX := Aside0.mk (blk_far (p := ⟨w.heap.size + 2, 0, none⟩) BX.out (by show w.heap.size ≠ w.heap.size + 2; omega) (.slice Ap ps.length cp))
 replace HPS := Aside0.mk (R_setb HPS.out 0 (.slice Ap ps.length cp))
 replace HP := Aside0.mk (HP.out.set_far NE3.out (by have := LE2.out; omega) 0 (.slice Ap ps.length cp))
 replace HK := Aside0.mk (keep_set_far (w := w) (b := w.heap.size + 2) HK.out (by omega) 0 (.slice Ap ps.length cp))
 refine (want_lits_at HP.out [eqS] (by decide) _ rfl 1 rfl w2.heap.size (by simp)).mono ?_
 intro e w3 hp
 unfold POut0 at hp
 try simp only [wantsR] at hp
 cases h1 : wantR ws eqS kps with
 | error f =>
  rw [h1] at hp
  have hr := HR.out
  rw [h1] at hr
  replace HR := Aside0.mk (show (.error f) = R from hr)
  clear hr h1
  obtain ⟨rfl, hb⟩ := hp
  have HR2 := Aside0.mk (show R = .error f from HR.out.symm)
  have HBB := Aside0.mk hb
  clear HR hb
  go_wp2_with fail
  exact ⟨rfl, by rw [HR2.out]; exact ⟨rfl, HBB.out⟩⟩
 | ok k3 =>
 rw [h1] at hp
 obtain ⟨rfl, hp1, hk1⟩ := hp
 have hr := HR.out
 rw [h1] at hr
 dsimp only at hr
 replace HR := Aside0.mk hr
 clear hr h1
 replace BX := Aside0.mk (KeepBut.blk hk1 BX.out NEx.out (by simp))
 replace B2 := Aside0.mk (KeepBut.blk hk1 B2.out NE2.out (by simp))
 replace B3 := Aside0.mk (KeepBut.blk hk1 B3.out NE3.out (by simp))
 replace HPS := Aside0.mk (HP.out.keepR (by decide) HPS.out hk1)
 replace HK := Aside0.mk (KeepBut.trans HK.out hk1 (.inl rfl))
 replace HP := Aside0.mk hp1
 clear hp1 hk1
 have cx := (blk_cell BX.out 0).trans rfl
 go_wp2_with fail
 clear cx
 have HSZ := Aside0.mk (blk_lt B3.out)
 refine (listS_calls HP.out).mono ?_
 intro e w4 hp
 unfold POut at hp
 cases h1 : listR ws (nameR ws) k3 with
 | error f =>
  rw [h1] at hp
  have hr := HR.out
  rw [h1] at hr
  replace HR := Aside0.mk (show (.error f) = R from hr)
  clear hr h1
  obtain ⟨rfl, hb⟩ := hp
  have HR2 := Aside0.mk (show R = .error f from HR.out.symm)
  have HBB := Aside0.mk hb
  clear HR hb
  go_wp2_with fail
  exact ⟨rfl, by rw [HR2.out]; exact ⟨rfl, HBB.out⟩⟩
 | ok rs =>
 obtain ⟨rs, krs⟩ := rs
 rw [h1] at hp
 dsimp only at hp
 obtain ⟨urs, rfl, retrs, hp1, hk1⟩ := hp
 have hr := HR.out
 rw [h1] at hr
 dsimp only at hr
 replace HR := Aside0.mk hr
 clear hr h1
 replace BX := Aside0.mk (KeepBut.blk hk1 BX.out NEx.out (by simp))
 replace B2 := Aside0.mk (KeepBut.blk hk1 B2.out NE2.out (by simp))
 replace B3 := Aside0.mk (KeepBut.blk hk1 B3.out NE3.out (by simp))
 replace HPS := Aside0.mk (HP.out.keepR (by decide) HPS.out hk1)
 replace HK := Aside0.mk (KeepBut.trans HK.out hk1 (.inl rfl))
 replace HP := Aside0.mk hp1
 clear hp1 hk1
 obtain ⟨Ar, cr, rfl⟩ := Kd.R_slice retrs
 have HRS := Aside0.mk (Kd.R_lower (base' := w.heap.size + 2 + 1) retrs HSZ.out)
 clear retrs HSZ
 have c3_ := (blk_cell B3.out 1).trans rfl
 have f3_ := blk_frozen B3.out 1
 have cx := (blk_cell BX.out 0).trans rfl
 have BXq := Aside0.mk (blk_far (p := ⟨w.heap.size + 2, 1, none⟩) BX.out (by show w.heap.size ≠ w.heap.size + 2; omega) (.slice Ar rs.length cr))
 have cxq := (blk_cell BXq.out 0).trans rfl
 go_wp2_with fail
 clear cx c3_ f3_ cxq BXq
 replace B3 := Aside0.mk (show (w4.setCell ⟨w.heap.size + 2, 1, none⟩ (.slice Ar rs.length cr)).heap[w.heap.size + 2]? = some (.cells #[.slice Ap ps.length cp, .slice Ar rs.length cr, .int .i64 0, .slice none 0 0, .slice none 0 0, .slice none 0 0] 35 (0, 0)) from blk_put (cs := #[.slice Ap ps.length cp, .slice none 0 0, .int .i64 0, .slice none 0 0, .slice none 0 0, .slice none 0 0]) B3.out 1 (.slice Ar rs.length cr) rfl)
 replace B2 := Aside0.mk (blk_far (p := ⟨w.heap.size + 2, 1, none⟩) B2.out (by show w.heap.size + 1 ≠ w.heap.size + 2; omega) (.slice Ar rs.length cr))
 replace BX := Aside0.mk (blk_far (p := ⟨w.heap.size + 2, 1, none⟩) BX.out (by show w.heap.size ≠ w.heap.size + 2; omega) (.slice Ar rs.length cr))
 replace HPS := Aside0.mk (R_setb HPS.out 1 (.slice Ar rs.length cr))
 replace HRS := Aside0.mk (R_setb HRS.out 1 (.slice Ar rs.length cr))
 replace HP := Aside0.mk (HP.out.set_far NE3.out (by have := LE2.out; omega) 1 (.slice Ar rs.length cr))
 replace HK := Aside0.mk (keep_set_far (w := w) (b := w.heap.size + 2) HK.out (by omega) 1 (.slice Ar rs.length cr))
 refine (want_lits_at HP.out [cellsS] (by decide) _ rfl 1 rfl w4.heap.size (by simp)).mono ?_
 intro e w5 hp
 unfold POut0 at hp
 try simp only [wantsR] at hp
 cases h1 : wantR ws cellsS krs with
 | error f =>
  rw [h1] at hp
  have hr := HR.out
  rw [h1] at hr
  replace HR := Aside0.mk (show (.error f) = R from hr)
  clear hr h1
  obtain ⟨rfl, hb⟩ := hp
  have HR2 := Aside0.mk (show R = .error f from HR.out.symm)
  have HBB := Aside0.mk hb
  clear HR hb
  go_wp2_with fail
  exact ⟨rfl, by rw [HR2.out]; exact ⟨rfl, HBB.out⟩⟩
 | ok k5 =>
 rw [h1] at hp
 obtain ⟨rfl, hp1, hk1⟩ := hp
 have hr := HR.out
 rw [h1] at hr
 dsimp only at hr
 replace HR := Aside0.mk hr
 clear hr h1
 replace BX := Aside0.mk (KeepBut.blk hk1 BX.out NEx.out (by simp))
 replace B2 := Aside0.mk (KeepBut.blk hk1 B2.out NE2.out (by simp))
 replace B3 := Aside0.mk (KeepBut.blk hk1 B3.out NE3.out (by simp))
 replace HPS := Aside0.mk (HP.out.keepR (by decide) HPS.out hk1)
 replace HRS := Aside0.mk (HP.out.keepR (by decide) HRS.out hk1)
 replace HK := Aside0.mk (KeepBut.trans HK.out hk1 (.inl rfl))
 replace HP := Aside0.mk hp1
 clear hp1 hk1
 have cx := (blk_cell BX.out 0).trans rfl
 go_wp2_with fail
 clear cx
 refine (number_calls HP.out HL.out).mono ?_
 intro e w6 hp
 unfold POut at hp
 cases h1 : numberR ws k5 with
 | error f =>
  rw [h1] at hp
  have hr := HR.out
  rw [h1] at hr
  replace HR := Aside0.mk (show (.error f) = R from hr)
  clear hr h1
  obtain ⟨rfl, hb⟩ := hp
  have HR2 := Aside0.mk (show R = .error f from HR.out.symm)
  have HBB := Aside0.mk hb
  clear HR hb
  go_wp2_with fail
  exact ⟨rfl, by rw [HR2.out]; exact ⟨rfl, HBB.out⟩⟩
 | ok n =>
 obtain ⟨n, kn⟩ := n
 rw [h1] at hp
 dsimp only at hp
 obtain ⟨un, rfl, rfl, hp1, hk1⟩ := hp
 have hr := HR.out
 rw [h1] at hr
 dsimp only at hr
 replace HR := Aside0.mk hr
 clear hr h1
 replace BX := Aside0.mk (KeepBut.blk hk1 BX.out NEx.out (by simp))
 replace B2 := Aside0.mk (KeepBut.blk hk1 B2.out NE2.out (by simp))
 replace B3 := Aside0.mk (KeepBut.blk hk1 B3.out NE3.out (by simp))
 replace HPS := Aside0.mk (HP.out.keepR (by decide) HPS.out hk1)
 replace HRS := Aside0.mk (HP.out.keepR (by decide) HRS.out hk1)
 replace HK := Aside0.mk (KeepBut.trans HK.out hk1 (.inl rfl))
 replace HP := Aside0.mk hp1
 clear hp1 hk1
 have c3_ := (blk_cell B3.out 2).trans rfl
 have f3_ := blk_frozen B3.out 2
 have cx := (blk_cell BX.out 0).trans rfl
 have BXq := Aside0.mk (blk_far (p := ⟨w.heap.size + 2, 2, none⟩) BX.out (by show w.heap.size ≠ w.heap.size + 2; omega) (.int .i64 n))
 have cxq := (blk_cell BXq.out 0).trans rfl
 go_wp2_with fail
 clear cx c3_ f3_ cxq BXq
 replace B3 := Aside0.mk (show (w6.setCell ⟨w.heap.size + 2, 2, none⟩ (.int .i64 n)).heap[w.heap.size + 2]? = some (.cells #[.slice Ap ps.length cp, .slice Ar rs.length cr, .int .i64 n, .slice none 0 0, .slice none 0 0, .slice none 0 0] 35 (0, 0)) from blk_put (cs := #[.slice Ap ps.length cp, .slice Ar rs.length cr, .int .i64 0, .slice none 0 0, .slice none 0 0, .slice none 0 0]) B3.out 2 (.int .i64 n) rfl)
 replace B2 := Aside0.mk (blk_far (p := ⟨w.heap.size + 2, 2, none⟩) B2.out (by show w.heap.size + 1 ≠ w.heap.size + 2; omega) (.int .i64 n))
 replace BX := Aside0.mk (blk_far (p := ⟨w.heap.size + 2, 2, none⟩) BX.out (by show w.heap.size ≠ w.heap.size + 2; omega) (.int .i64 n))
 replace HPS := Aside0.mk (R_setb HPS.out 2 (.int .i64 n))
 replace HRS := Aside0.mk (R_setb HRS.out 2 (.int .i64 n))
 replace HP := Aside0.mk (HP.out.set_far NE3.out (by have := LE2.out; omega) 2 (.int .i64 n))
 replace HK := Aside0.mk (keep_set_far (w := w) (b := w.heap.size + 2) HK.out (by omega) 2 (.int .i64 n))
 refine (want_lits_at HP.out [flagsS] (by decide) _ rfl 1 rfl w6.heap.size (by simp)).mono ?_
 intro e w7 hp
 unfold POut0 at hp
 try simp only [wantsR] at hp
 cases h1 : wantR ws flagsS kn with
 | error f =>
  rw [h1] at hp
  have hr := HR.out
  rw [h1] at hr
  replace HR := Aside0.mk (show (.error f) = R from hr)
  clear hr h1
  obtain ⟨rfl, hb⟩ := hp
  have HR2 := Aside0.mk (show R = .error f from HR.out.symm)
  have HBB := Aside0.mk hb
  clear HR hb
  go_wp2_with fail
  exact ⟨rfl, by rw [HR2.out]; exact ⟨rfl, HBB.out⟩⟩
 | ok k7 =>
 rw [h1] at hp
 obtain ⟨rfl, hp1, hk1⟩ := hp
 have hr := HR.out
 rw [h1] at hr
 dsimp only at hr
 replace HR := Aside0.mk hr
 clear hr h1
 replace BX := Aside0.mk (KeepBut.blk hk1 BX.out NEx.out (by simp))
 replace B2 := Aside0.mk (KeepBut.blk hk1 B2.out NE2.out (by simp))
 replace B3 := Aside0.mk (KeepBut.blk hk1 B3.out NE3.out (by simp))
 replace HPS := Aside0.mk (HP.out.keepR (by decide) HPS.out hk1)
 replace HRS := Aside0.mk (HP.out.keepR (by decide) HRS.out hk1)
 replace HK := Aside0.mk (KeepBut.trans HK.out hk1 (.inl rfl))
 replace HP := Aside0.mk hp1
 clear hp1 hk1
 have cx := (blk_cell BX.out 0).trans rfl
 go_wp2_with fail
 clear cx
 have HW := Aside0.mk HP.out
 refine (till_calls (snocR (flagR ws)) (fun l => snocR_fwd flagR_fwd l) 81 _ _ flags_eg (CI (Kd.int .i64) 3 35 (fun v => #[.slice Ap ps.length cp, .slice Ar rs.length cr, .int .i64 n, v, .slice none 0 0, .slice none 0 0]) w7 g w.heap.size (w.heap.size + 2)) (fun W W1 s k_ hp hi hk => CI.step (by decide) NEx.out NE3.out hp hi hk) (fun W s k1 k2 hk hi => CI.mono_ hk hi) ?_ HP.out [] ?_).mono ?_
 ·intro W s k_ hp hi
  exact flags_calls w7 w.heap.size (w.heap.size + 2) NEx.out NE3.out (by omega) (by have := LE2.out; omega) (blk_lt B3.out) (.slice Ap ps.length cp) (.slice Ar rs.length cr) n s hp HL.out hi
 ·exact ⟨BX.out, ⟨_, B3.out, Kd.R_nil _ _ _ _ _, Nat.zero_le _⟩, KeepBut.refl _ _ _⟩
 intro e w8 hp
 unfold TOut at hp
 cases h1 : tillR ws (snocR (flagR ws)) [] k7 with
 | error f =>
  rw [h1] at hp
  have hr := HR.out
  rw [h1] at hr
  replace HR := Aside0.mk (show (.error f) = R from hr)
  clear hr h1 HW
  obtain ⟨rfl, hb⟩ := hp
  have HR2 := Aside0.mk (show R = .error f from HR.out.symm)
  have HBB := Aside0.mk hb
  clear HR hb
  go_wp2_with fail
  exact ⟨rfl, by rw [HR2.out]; exact ⟨rfl, HBB.out⟩⟩
 | ok fl =>
 obtain ⟨fl, kfl⟩ := fl
 rw [h1] at hp
 dsimp only at hp
 obtain ⟨rfl, hp1, hx1, ⟨v, hb3, hrv, -⟩, hkk⟩ := hp
 have hr := HR.out
 rw [h1] at hr
 dsimp only at hr
 replace HR := Aside0.mk hr
 have HSZ := Aside0.mk (blk_lt B3.out)
 replace HPS := Aside0.mk (HW.out.keepR3 (b := w.heap.size + 2) (by decide) HPS.out (by omega) hkk)
 replace HRS := Aside0.mk (HW.out.keepR3 (b := w.heap.size + 2) (by decide) HRS.out (by omega) hkk)
 replace HK := Aside0.mk (KeepBut.trans HK.out hkk (.inr ⟨_, rfl, by omega⟩))
 replace B2 := Aside0.mk (KeepBut.blk hkk B2.out NE2.out (by intro e; injection e with e; omega))
 replace HP := Aside0.mk hp1
 replace B3 := Aside0.mk hb3
 replace BX := Aside0.mk hx1
 have HFL := Aside0.mk (Kd.R_lower (base' := w.heap.size + 2 + 1) hrv HSZ.out)
 clear hr h1 hp1 hx1 hb3 hrv hkk HW HSZ
 obtain ⟨Af, cf, rfl⟩ := Kd.R_slice HFL.out
 have cx := (blk_cell BX.out 0).trans rfl
 go_wp2_with fail
 clear cx
 refine (want_lits HP.out [partsS] (by decide) _ rfl 1 rfl).mono ?_
 intro e w9 hp
 unfold POut0 at hp
 try simp only [wantsR] at hp
 cases h1 : wantR ws partsS kfl with
 | error f =>
  rw [h1] at hp
  have hr := HR.out
  rw [h1] at hr
  replace HR := Aside0.mk (show (.error f) = R from hr)
  clear hr h1
  obtain ⟨rfl, hb⟩ := hp
  have HR2 := Aside0.mk (show R = .error f from HR.out.symm)
  have HBB := Aside0.mk hb
  clear HR hb
  go_wp2_with fail
  exact ⟨rfl, by rw [HR2.out]; exact ⟨rfl, HBB.out⟩⟩
 | ok k9 =>
 rw [h1] at hp
 obtain ⟨rfl, hp1, hk1⟩ := hp
 have hr := HR.out
 rw [h1] at hr
 dsimp only at hr
 replace HR := Aside0.mk hr
 clear hr h1
 replace BX := Aside0.mk (KeepBut.blk hk1 BX.out NEx.out (by simp))
 replace B2 := Aside0.mk (KeepBut.blk hk1 B2.out NE2.out (by simp))
 replace B3 := Aside0.mk (KeepBut.blk hk1 B3.out NE3.out (by simp))
 replace HPS := Aside0.mk (HP.out.keepR (by decide) HPS.out hk1)
 replace HRS := Aside0.mk (HP.out.keepR (by decide) HRS.out hk1)
 replace HFL := Aside0.mk (HP.out.keepR (by decide) HFL.out hk1)
 replace HK := Aside0.mk (KeepBut.trans HK.out hk1 (.inl rfl))
 replace HP := Aside0.mk hp1
 clear hp1 hk1
 have cx := (blk_cell BX.out 0).trans rfl
 go_wp2_with fail
 clear cx
 have HW := Aside0.mk HP.out
 refine (till_calls (snocR (partR ws)) (fun l => snocR_fwd partR_fwd l) 82 _ _ parts_eg (CI (k103) 103 35 (fun v => #[.slice Ap ps.length cp, .slice Ar rs.length cr, .int .i64 n, .slice Af fl.length cf, v, .slice none 0 0]) w9 g w.heap.size (w.heap.size + 2)) (fun W W1 s k_ hp hi hk => CI.step (by decide) NEx.out NE3.out hp hi hk) (fun W s k1 k2 hk hi => CI.mono_ hk hi) ?_ HP.out [] ?_).mono ?_
 ·intro W s k_ hp hi
  exact parts_calls w9 w.heap.size (w.heap.size + 2) NEx.out NE3.out (by omega) (by have := LE2.out; omega) (blk_lt B3.out) (.slice Ap ps.length cp) (.slice Ar rs.length cr) n (.slice Af fl.length cf) s hp HL.out hi
 ·exact ⟨BX.out, ⟨_, B3.out, Kd.R_nil _ _ _ _ _, Nat.zero_le _⟩, KeepBut.refl _ _ _⟩
 intro e w10 hp
 unfold TOut at hp
 cases h1 : tillR ws (snocR (partR ws)) [] k9 with
 | error f =>
  rw [h1] at hp
  have hr := HR.out
  rw [h1] at hr
  replace HR := Aside0.mk (show (.error f) = R from hr)
  clear hr h1 HW
  obtain ⟨rfl, hb⟩ := hp
  have HR2 := Aside0.mk (show R = .error f from HR.out.symm)
  have HBB := Aside0.mk hb
  clear HR hb
  go_wp2_with fail
  exact ⟨rfl, by rw [HR2.out]; exact ⟨rfl, HBB.out⟩⟩
 | ok pt =>
 obtain ⟨pt, kpt⟩ := pt
 rw [h1] at hp
 dsimp only at hp
 obtain ⟨rfl, hp1, hx1, ⟨v, hb3, hrv, -⟩, hkk⟩ := hp
 have hr := HR.out
 rw [h1] at hr
 dsimp only at hr
 replace HR := Aside0.mk hr
 have HSZ := Aside0.mk (blk_lt B3.out)
 replace HPS := Aside0.mk (HW.out.keepR3 (b := w.heap.size + 2) (by decide) HPS.out (by omega) hkk)
 replace HRS := Aside0.mk (HW.out.keepR3 (b := w.heap.size + 2) (by decide) HRS.out (by omega) hkk)
 replace HFL := Aside0.mk (HW.out.keepR3 (b := w.heap.size + 2) (by decide) HFL.out (by omega) hkk)
 replace HK := Aside0.mk (KeepBut.trans HK.out hkk (.inr ⟨_, rfl, by omega⟩))
 replace B2 := Aside0.mk (KeepBut.blk hkk B2.out NE2.out (by intro e; injection e with e; omega))
 replace HP := Aside0.mk hp1
 replace B3 := Aside0.mk hb3
 replace BX := Aside0.mk hx1
 have HPT := Aside0.mk (Kd.R_lower (base' := w.heap.size + 2 + 1) hrv HSZ.out)
 clear hr h1 hp1 hx1 hb3 hrv hkk HW HSZ
 obtain ⟨At, ct, rfl⟩ := Kd.R_slice HPT.out
 have cx := (blk_cell BX.out 0).trans rfl
 go_wp2_with fail
 clear cx
 have HSZ := Aside0.mk (blk_lt B3.out)
 refine (block_calls HL.out 200 _ _ 0 (by omega) (by omega) HP.out).mono ?_
 intro e w11 hp
 unfold POut at hp
 cases h1 : blockR ws 200 kpt with
 | error f =>
  rw [h1] at hp
  have hr := HR.out
  rw [h1] at hr
  replace HR := Aside0.mk (show (.error f) = R from hr)
  clear hr h1
  obtain ⟨rfl, hb⟩ := hp
  have HR2 := Aside0.mk (show R = .error f from HR.out.symm)
  have HBB := Aside0.mk hb
  clear HR hb
  go_wp2_with fail
  exact ⟨rfl, by rw [HR2.out]; exact ⟨rfl, HBB.out⟩⟩
 | ok bl =>
 obtain ⟨bl, kbl⟩ := bl
 rw [h1] at hp
 dsimp only at hp
 obtain ⟨ubl, rfl, retbl, hp1, hk1⟩ := hp
 have hr := HR.out
 rw [h1] at hr
 dsimp only at hr
 replace HR := Aside0.mk hr
 clear hr h1
 replace BX := Aside0.mk (KeepBut.blk hk1 BX.out NEx.out (by simp))
 replace B2 := Aside0.mk (KeepBut.blk hk1 B2.out NE2.out (by simp))
 replace B3 := Aside0.mk (KeepBut.blk hk1 B3.out NE3.out (by simp))
 replace HPS := Aside0.mk (HP.out.keepR (by decide) HPS.out hk1)
 replace HRS := Aside0.mk (HP.out.keepR (by decide) HRS.out hk1)
 replace HFL := Aside0.mk (HP.out.keepR (by decide) HFL.out hk1)
 replace HPT := Aside0.mk (HP.out.keepR (by decide) HPT.out hk1)
 replace HK := Aside0.mk (KeepBut.trans HK.out hk1 (.inl rfl))
 replace HP := Aside0.mk hp1
 clear hp1 hk1
 obtain ⟨Ab, cb, rfl⟩ := Kd.R_slice retbl
 have HBL := Aside0.mk (Kd.R_lower (base' := w.heap.size + 2 + 1) retbl HSZ.out)
 clear retbl HSZ
 have c3_ := (blk_cell B3.out 5).trans rfl
 have f3_ := blk_frozen B3.out 5
 have B3q := Aside0.mk (show (w11.setCell ⟨w.heap.size + 2, 5, none⟩ (.slice Ab bl.length cb)).heap[w.heap.size + 2]? = some (.cells #[.slice Ap ps.length cp, .slice Ar rs.length cr, .int .i64 n, .slice Af fl.length cf, .slice At pt.length ct, .slice Ab bl.length cb] 35 (0, 0)) from blk_put (cs := #[.slice Ap ps.length cp, .slice Ar rs.length cr, .int .i64 n, .slice Af fl.length cf, .slice At pt.length ct, .slice none 0 0]) B3.out 5 (.slice Ab bl.length cb) rfl)
 have q3_0 := (blk_cell B3q.out 0).trans rfl
 have q3_1 := (blk_cell B3q.out 1).trans rfl
 have q3_2 := (blk_cell B3q.out 2).trans rfl
 have q3_3 := (blk_cell B3q.out 3).trans rfl
 have q3_4 := (blk_cell B3q.out 4).trans rfl
 have q3_5 := (blk_cell B3q.out 5).trans rfl
 have B2q := Aside0.mk (blk_far (p := ⟨w.heap.size + 2, 5, none⟩) B2.out (by show w.heap.size + 1 ≠ w.heap.size + 2; omega) (.slice Ab bl.length cb))
 go_wp2_with ((with_reducible refine gate_store (t := 35) (p := 2) rfl ?_); refine store_whole rfl rfl 35 _ _ rfl (w.heap.size + 1) _ 35 rfl B2q.out _ rfl rfl rfl (by simp [Value.oneCell']) ?_; intro wf hbf hgf; have HBF := Aside0.mk hbf; have HGF := Aside0.mk hgf; clear hbf hgf)
 clear c3_ f3_ q3_0 q3_1 q3_2 q3_3 q3_4 q3_5 B2q B3q
 replace B3 := Aside0.mk (show (w11.setCell ⟨w.heap.size + 2, 5, none⟩ (.slice Ab bl.length cb)).heap[w.heap.size + 2]? = some (.cells #[.slice Ap ps.length cp, .slice Ar rs.length cr, .int .i64 n, .slice Af fl.length cf, .slice At pt.length ct, .slice Ab bl.length cb] 35 (0, 0)) from blk_put (cs := #[.slice Ap ps.length cp, .slice Ar rs.length cr, .int .i64 n, .slice Af fl.length cf, .slice At pt.length ct, .slice none 0 0]) B3.out 5 (.slice Ab bl.length cb) rfl)
 replace B2 := Aside0.mk (blk_far (p := ⟨w.heap.size + 2, 5, none⟩) B2.out (by show w.heap.size + 1 ≠ w.heap.size + 2; omega) (.slice Ab bl.length cb))
 replace BX := Aside0.mk (blk_far (p := ⟨w.heap.size + 2, 5, none⟩) BX.out (by show w.heap.size ≠ w.heap.size + 2; omega) (.slice Ab bl.length cb))
 replace HPS := Aside0.mk (R_setb HPS.out 5 (.slice Ab bl.length cb))
 replace HRS := Aside0.mk (R_setb HRS.out 5 (.slice Ab bl.length cb))
 replace HFL := Aside0.mk (R_setb HFL.out 5 (.slice Ab bl.length cb))
 replace HPT := Aside0.mk (R_setb HPT.out 5 (.slice Ab bl.length cb))
 replace HBL := Aside0.mk (R_setb HBL.out 5 (.slice Ab bl.length cb))
 replace HP := Aside0.mk (HP.out.set_far NE3.out (by have := LE2.out; omega) 5 (.slice Ab bl.length cb))
 replace HK := Aside0.mk (keep_set_far (w := w) (b := w.heap.size + 2) HK.out (by omega) 5 (.slice Ab bl.length cb))
 refine bodyPost_ret (results_c1 rfl _ _ (w.heap.size + 1) 35 _ (0, 0) _ rfl HBF.out HU.out rfl rfl) rfl ?_
 rw [← HR.out]
 exact POut.fin HP.out HK.out HGF.out NE2.out (by have := LE2.out; omega) (by omega) ⟨_, rfl, kFF.M_lower (base' := w.heap.size) (by omega) (kFF_mkM wf (w.heap.size + 1 + 1) _ ⟨ps, rs, n, fl, pt, bl⟩ (R_grownb (Kd.R_lower (base' := w.heap.size + 1 + 1) HPS.out (by omega)) HGF.out) (R_grownb (Kd.R_lower (base' := w.heap.size + 1 + 1) HRS.out (by omega)) HGF.out) (R_grownb (Kd.R_lower (base' := w.heap.size + 1 + 1) HFL.out (by omega)) HGF.out) (R_grownb (Kd.R_lower (base' := w.heap.size + 1 + 1) HPT.out (by omega)) HGF.out) (R_grownb (Kd.R_lower (base' := w.heap.size + 1 + 1) HBL.out (by omega)) HGF.out))⟩
end
end Go.Proofs.YticndoihkfbpoaaGreatDoor
