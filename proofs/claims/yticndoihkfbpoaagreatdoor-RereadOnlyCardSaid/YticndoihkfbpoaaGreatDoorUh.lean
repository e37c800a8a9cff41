/- Package reread: choice, statement. -/
import Derived.Test.YticndoihkfbpoaaGreatDoorUg
namespace Go.Proofs.YticndoihkfbpoaaGreatDoor
open Go Go.RowKit Go.Lib Go.Proofs.YticndoihkfbpoaaGreatDoorW.PrintWords Go.Proofs.YticndoihkfbpoaaGreatDoor.PScope
set_option maxRecDepth 100000
set_option linter.unusedSimpArgs false
set_option linter.unusedVariables false
theorem run_mkfn (fn : Fn) (first cap : Array Value) (w : World) : (Instr.makeFunc fn first cap).run Tryz.prog w = .ok (.func fn first cap) w := rfl
theorem choice1_eg : ∀ args w, (callFunc 180 args).run Tryz.prog w = .ok (.enter 180 args) w := enters_of Tryz.func180 (by kernel_rfl) rfl
theorem ChI.step {wb : World} {w0 W W1 : World} {g gx b3 : Nat} {ws : List ByteArray} {nm : ByteArray} {l : List (Int × List FS)} {k k2 : Nat} {o : Int} (hgx : gx ≠ g) (hb3 : b3 ≠ g) (h : PS w0 W g ws k o) (hI : ChI wb g gx b3 nm W l k2) (hk : KeepBut W W1 g none) : ChI wb g gx b3 nm W1 l k2 := by
 obtain ⟨h1, ⟨v, h2, h3, h4⟩, h5⟩ := hI
 exact ⟨KeepBut.blk hk h1 hgx (by simp), ⟨v, KeepBut.blk hk h2 hb3 (by simp), h.keepR (by decide) h3 hk, h4⟩, KeepBut.trans h5 (keep_row hk (some b3)) (.inl rfl)⟩
theorem ChI.mono_ {wb W : World} {g gx b3 : Nat} {nm : ByteArray} {l : List (Int × List FS)} {k k' : Nat} (hk : k ≤ k') (hI : ChI wb g gx b3 nm W l k) : ChI wb g gx b3 nm W l k' := by
 obtain ⟨h1, ⟨v, h2, h3, h4⟩, h5⟩ := hI
 exact ⟨h1, ⟨v, h2, h3, by omega⟩, h5⟩
section
variable {w0 w : World} {g : Nat} {ws : List ByteArray} {k : Nat} {o : Int}
set_option maxHeartbeats 2000000 in
theorem choice_calls (blk : Rd (List FS)) (hbf : Fwd blk) (hb : ∀ (W : World) (k' : Nat), PS w0 W g ws k' o → Calls Tryz.prog 83 #[.pointer (some ⟨g, 0, none⟩)] W (POut (retB W.heap.size) w0 W g ws o (blk k'))) (h : PS w0 w g ws k o) (hL : LaidR w0) :
  Calls Tryz.prog 151 #[.pointer (some ⟨g, 0, none⟩)] w (POut (retF w.heap.size) w0 w g ws o (choiceR ws blk k)) := by
 have HX := Aside0.mk hb
 have HFW := Aside0.mk hbf
 have HU := Aside0.mk Tryz.underlying41
 have NEx : Aside0 (w.heap.size ≠ g) := ⟨Nat.ne_of_gt h.lt⟩
 have NE2 : Aside0 (w.heap.size + 1 ≠ g) := ⟨by have := h.lt; omega⟩
 have LE2 : Aside0 (w0.heap.size ≤ w.heap.size) := ⟨h.be.size⟩
 have hmf := run_mkfn
 clear hb hbf
 have HP := Aside0.mk h
 have HK := Aside0.mk (KeepBut.refl w g none)
 obtain ⟨R, hR⟩ : ∃ R, choiceR ws blk k = R := ⟨_, rfl⟩
 rw [hR]
 unfold choiceR at hR
 have HR := Aside0.mk hR
 clear h hR
 have HL := Aside0.mk hL
 clear hL
 have BX := Aside0.mk (blk_alloc (blk_new w (.cells #[.pointer (some ⟨g, 0, none⟩)] 95 (0, 0))) (.cells #[.int .i64 0, .string ⟨#[]⟩, .int .i64 0, .int .i64 0, .slice none 0 0, .int .i64 0, .string ⟨#[]⟩, .int .i64 0, .slice none 0 0, .slice none 0 0, .slice none 0 0, .slice none 0 0] 41 (0, 0)))
 have B2 := Aside0.mk (show ((w.alloc (.cells #[.pointer (some ⟨g, 0, none⟩)] 95 (0, 0))).alloc (.cells #[.int .i64 0, .string ⟨#[]⟩, .int .i64 0, .int .i64 0, .slice none 0 0, .int .i64 0, .string ⟨#[]⟩, .int .i64 0, .slice none 0 0, .slice none 0 0, .slice none 0 0, .slice none 0 0] 41 (0, 0))).heap[w.heap.size + 1]? = some (.cells #[.int .i64 0, .string ⟨#[]⟩, .int .i64 0, .int .i64 0, .slice none 0 0, .int .i64 0, .string ⟨#[]⟩, .int .i64 0, .slice none 0 0, .slice none 0 0, .slice none 0 0, .slice none 0 0] 41 (0, 0)) from by have := blk_new (w.alloc (.cells #[.pointer (some ⟨g, 0, none⟩)] 95 (0, 0))) (.cells #[.int .i64 0, .string ⟨#[]⟩, .int .i64 0, .int .i64 0, .slice none 0 0, .int .i64 0, .string ⟨#[]⟩, .int .i64 0, .slice none 0 0, .slice none 0 0, .slice none 0 0, .slice none 0 0] 41 (0, 0)); simpa using this)
 replace HP := Aside0.mk ((HP.out.alloc (.cells #[.pointer (some ⟨g, 0, none⟩)] 95 (0, 0))).alloc (.cells #[.int .i64 0, .string ⟨#[]⟩, .int .i64 0, .int .i64 0, .slice none 0 0, .int .i64 0, .string ⟨#[]⟩, .int .i64 0, .slice none 0 0, .slice none 0 0, .slice none 0 0, .slice none 0 0] 41 (0, 0)))
 replace HK := Aside0.mk (keep_alloc (keep_alloc HK.out (.cells #[.pointer (some ⟨g, 0, none⟩)] 95 (0, 0))) (.cells #[.int .i64 0, .string ⟨#[]⟩, .int .i64 0, .int .i64 0, .slice none 0 0, .int .i64 0, .string ⟨#[]⟩, .int .i64 0, .slice none 0 0, .slice none 0 0, .slice none 0 0, .slice none 0 0] 41 (0, 0)))
 have cx := (blk_cell BX.out 0).trans rfl
 go_enter Tryz.func151, Tryz.ntmps151
 go_wp2_with fail
 clear cx
 refine (name_calls HP.out).mono ?_
 intro e w1 hp
 unfold POut at hp
 cases h1 : nameR ws k with
 | error f =>
  rw [h1] at hp
  have hr := HR.out
  rw [h1] at hr
  replace HR := Aside0.mk (show (.error f) = R from hr)
  clear hr h1
  obtain ⟨rfl, hb⟩ := hp
  have HR2 := Aside0.mk (show R = .error f from HR.out.symm)
  have HBB := Aside0.mk hb
  clear HR hb
  go_wp2_with fail
  exact ⟨rfl, by rw [HR2.out]; exact ⟨rfl, HBB.out⟩⟩
 | ok nm =>
 obtain ⟨nm, knm⟩ := nm
 rw [h1] at hp
 dsimp only at hp
 obtain ⟨unm, rfl, rfl, hp1, hk1⟩ := hp
 have hr := HR.out
 rw [h1] at hr
 dsimp only at hr
 replace HR := Aside0.mk hr
 clear hr h1
 replace BX := Aside0.mk (KeepBut.blk hk1 BX.out NEx.out (by simp))
 replace B2 := Aside0.mk (KeepBut.blk hk1 B2.out NE2.out (by simp))
 replace HK := Aside0.mk (KeepBut.trans HK.out hk1 (.inl rfl))
 replace HP := Aside0.mk hp1
 clear hp1 hk1
 go_wp2_with ((with_reducible refine gate_store (t := 41) (p := 3) rfl ?_); refine store_whole rfl rfl 41 _ _ rfl w1.heap.size _ 41 rfl (blk_new _ _) _ rfl rfl rfl (by simp [Value.oneCell']) ?_; intro w2 hb2 hg2; have NE3 := Aside0.mk (Nat.ne_of_gt HP.out.lt : w1.heap.size ≠ g); have LT3 := Aside0.mk (blk_lt B2.out); replace BX := Aside0.mk (blk_as BX.out hg2); replace B2 := Aside0.mk (blk_as B2.out hg2); replace HP := Aside0.mk (HP.out.as hg2); replace HK := Aside0.mk (KeepBut.trans HK.out (KeepBut.of_below (below_as (Below.refl _ _) hg2) g none) (.inl rfl)); have B3 := Aside0.mk hb2; clear hb2 hg2; have cx := (blk_cell BX.out 0).trans rfl)
 clear cx
 refine (till_calls (armR ws blk) (armR_fwd HFW.out) 180 _ _ choice1_eg (ChI w2 g w.heap.size w1.heap.size nm) (fun W W1 s k_ hp hi hk => ChI.step NEx.out NE3.out hp hi hk) (fun W s k1 k2 hk hi => ChI.mono_ hk hi) ?_ HP.out [] ?_).mono ?_
 ·intro W s k_ hp hi
  exact choice1_calls blk HFW.out HX.out w2 w.heap.size w1.heap.size nm NEx.out NE3.out (by have := LT3.out; omega) (by have := LE2.out; have := LT3.out; omega) (blk_lt B3.out) s hp HL.out hi
 ·exact ⟨BX.out, ⟨_, B3.out, Kd.R_nil _ _ _ _ _, Nat.zero_le _⟩, KeepBut.refl _ _ _⟩
 intro e w3 hp
 unfold TOut at hp
 cases h1 : tillR ws (armR ws blk) [] knm with
 | error f =>
  rw [h1] at hp
  have hr := HR.out
  rw [h1] at hr
  replace HR := Aside0.mk (show (.error f) = R from hr)
  clear hr h1
  obtain ⟨rfl, hb⟩ := hp
  have HR2 := Aside0.mk (show R = .error f from HR.out.symm)
  have HBB := Aside0.mk hb
  clear HR hb
  go_wp2_with fail
  exact ⟨rfl, by rw [HR2.out]; exact ⟨rfl, HBB.out⟩⟩
 | ok x =>
 obtain ⟨ar, k2⟩ := x
 rw [h1] at hp
 dsimp only at hp
 obtain ⟨rfl, hp1, hx1, ⟨v, hb3, hrv, -⟩, hkk⟩ := hp
 have HSW := Aside0.mk (blk_lt B2.out)
 have hr := HR.out
 rw [h1] at hr
 dsimp only at hr
 replace HR := Aside0.mk hr
 replace HP := Aside0.mk hp1
 replace HK := Aside0.mk (KeepBut.trans HK.out hkk (.inr ⟨_, rfl, by have := LT3.out; omega⟩))
 replace B2 := Aside0.mk (KeepBut.blk hkk B2.out NE2.out (by intro e; injection e with e; have := LT3.out; omega))
 replace B3 := Aside0.mk hb3
 have HRV := Aside0.mk hrv
 clear hr h1 hp1 hkk hb3 hrv hx1 BX
 obtain ⟨Av, cv, rfl⟩ := Kd.R_slice HRV.out
 have c3_0 := (blk_cell B3.out 0).trans rfl
 have c3_1 := (blk_cell B3.out 1).trans rfl
 have c3_2 := (blk_cell B3.out 2).trans rfl
 have c3_3 := (blk_cell B3.out 3).trans rfl
 have c3_4 := (blk_cell B3.out 4).trans rfl
 have c3_5 := (blk_cell B3.out 5).trans rfl
 have c3_6 := (blk_cell B3.out 6).trans rfl
 have c3_7 := (blk_cell B3.out 7).trans rfl
 have c3_8 := (blk_cell B3.out 8).trans rfl
 have c3_9 := (blk_cell B3.out 9).trans rfl
 have c3_10 := (blk_cell B3.out 10).trans rfl
 have c3_11 := (blk_cell B3.out 11).trans rfl
 go_wp2_with ((with_reducible refine gate_store (t := 41) (p := 2) rfl ?_); refine store_whole rfl rfl 41 _ _ rfl (w.heap.size + 1) _ 41 rfl B2.out _ rfl rfl rfl (by simp [Value.oneCell']) ?_; intro wf hbf hgf; have HBF := Aside0.mk hbf; have HGF := Aside0.mk hgf; clear hbf hgf)
 refine bodyPost_ret (results_c1 rfl _ _ (w.heap.size + 1) 41 _ (0, 0) _ rfl HBF.out HU.out rfl rfl) rfl ?_
 rw [← HR.out]
 exact POut.fin HP.out HK.out HGF.out NE2.out (by have := LE2.out; omega) (by omega) ⟨_, rfl, kFS.M_lower (by omega) (kFS_mkM wf (w.heap.size + 1 + 1) _ (.mk 5 nm 0 0 [] zE [] ar) (Kd.R_nil _ _ _ _ _) (M_expr_flat wf _ 0 es 0) (Kd.R_nil _ _ _ _ _) (R_grownb (Kd.R_lower HRV.out HSW.out) HGF.out))⟩
end
end Go.Proofs.YticndoihkfbpoaaGreatDoor
