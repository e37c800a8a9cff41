/- Package reread: call, choice. -/
import Derived.Test.YticndoihkfbpoaaGreatDoorUf
import Derived.Deep.RegionLaw
namespace Go.Proofs.YticndoihkfbpoaaGreatDoor
open Go Go.RowKit Go.Lib Go.Proofs.YticndoihkfbpoaaGreatDoorW.PrintWords Go.Proofs.YticndoihkfbpoaaGreatDoor.PScope
set_option maxRecDepth 100000
set_option linter.unusedSimpArgs false
set_option linter.unusedVariables false
abbrev retF (b : Nat) : World → FS → Value → Prop := fun w' x u => ∃ cs, u = .agg cs.toArray ∧ kFS.M w' b (fun _ => True) x cs
abbrev retB (b : Nat) : World → List FS → Value → Prop := fun w' x u => kFS.R 41 w' b (fun _ => True) u x
theorem infoFA : (Tryz.prog.info? 147).map (fun i => (i.zero, i.size, i.bytes)) = some (some (.agg #[.int .i64 0, .slice none 0 0]), 2, 32) := by kernel_rfl
theorem infoFS : (Tryz.prog.info? 41).map (fun i => (i.zero, i.size, i.bytes)) = some (some (.agg #[.int .i64 0, .string ⟨#[]⟩, .int .i64 0, .int .i64 0, .slice none 0 0, .int .i64 0, .string ⟨#[]⟩, .int .i64 0, .slice none 0 0, .slice none 0 0, .slice none 0 0, .slice none 0 0]), 12, 192) := by kernel_rfl
theorem M_fs_flat (wf : World) (b : Nat) (op : Int) (name : ByteArray) (pos fn : Int) : kFS.M wf b (fun _ => True) (.mk op name pos fn [] zE [] []) [.int .i64 op, .string name, .int .i64 pos, .int .i64 fn, .slice none 0 0, .int .i64 0, .string ⟨#[]⟩, .int .i64 0, .slice none 0 0, .slice none 0 0, .slice none 0 0, .slice none 0 0] :=
 kFS_mkM wf b _ (.mk op name pos fn [] zE [] []) (Kd.R_nil _ _ _ _ _) (M_expr_flat wf b 0 es 0) (Kd.R_nil _ _ _ _ _) (Kd.R_nil _ _ _ _ _)
theorem R_setb {α : Type} {d : Kd α} {e : Nat} {W : World} {b : Nat} {v : Value} {xs : List α} (h : d.R e W (b + 1) (fun _ => True) v xs) (j : Nat) (u : Value) : d.R e (W.setCell ⟨b, j, none⟩ u) (b + 1) (fun _ => True) v xs :=
 Kd.R_mono (Kd.R_far (p := ⟨b, j, none⟩) (Kd.R_mono (Kd.R_bound h) (fun k hk => hk.2.1)) (fun k hk e => by rw [e] at hk; exact absurd hk (by show ¬ b + 1 ≤ b; omega)) u) (fun _ _ => trivial)
section
variable {w0 w : World} {g : Nat} {ws : List ByteArray} {k : Nat} {o : Int}
theorem want_lits_at (h : PS w0 w g ws k o) (l : List ByteArray) (hl : l.length ≤ 1048576) (cs : Array Value) (hcs : cs = (encs Value.string l).toArray) (n : Nat) (hn : n = l.length) (a : Nat) (ha : a = w.heap.size) :
  Calls Tryz.prog 76 #[.pointer (some ⟨g, 0, none⟩), .slice (some ⟨a, 0, none⟩) n n] (w.alloc (.cells cs 9)) (POut0 w0 w g ws o (wantsR ws l k)) := by
 subst ha; exact want_lits h l hl cs hcs n hn
theorem PS.set_far (h : PS w0 w g ws k o) {b : Nat} (hn : b ≠ g) (hb : w0.heap.size ≤ b) (j : Nat) (u : Value) : PS w0 (w.setCell ⟨b, j, none⟩ u) g ws k o :=
 h.grown (b := b) ⟨rfl, rfl, rfl, by simp [World.setCell], fun k hk hn => Below.heap_setCell w ⟨b, j, none⟩ u k (fun e => hn (by rw [e]))⟩ hn hb
theorem keep_set_far {W : World} {b : Nat} (hk : KeepBut w W g none) (hb : w.heap.size ≤ b) (j : Nat) (u : Value) : KeepBut w (W.setCell ⟨b, j, none⟩ u) g none :=
 keep_grown hk (b := b) ⟨rfl, rfl, rfl, by simp [World.setCell], fun k hk hn => Below.heap_setCell W ⟨b, j, none⟩ u k (fun e => hn (by rw [e]))⟩ hb
set_option maxHeartbeats 1000000 in
theorem call_calls (h : PS w0 w g ws k o) (hL : LaidR w0) (op : Int) :
  Calls Tryz.prog 154 #[.pointer (some ⟨g, 0, none⟩), .int .i64 op] w (POut (fun w' x u => u = .agg #[.int .i64 op, .string ⟨#[]⟩, .int .i64 x.2, .int .i64 x.1, .slice none 0 0, .int .i64 0, .string ⟨#[]⟩, .int .i64 0, .slice none 0 0, .slice none 0 0, .slice none 0 0, .slice none 0 0]) w0 w g ws o (callR ws k)) := by
 have HU := Aside0.mk Tryz.underlying41
 have NE2 : Aside0 (w.heap.size ≠ g) := ⟨Nat.ne_of_gt h.lt⟩
 have LE2 : Aside0 (w0.heap.size ≤ w.heap.size) := ⟨h.be.size⟩
 have HP := Aside0.mk h
 have HK := Aside0.mk (KeepBut.refl w g none)
 obtain ⟨R, hR⟩ : ∃ R, callR ws k = R := ⟨_, rfl⟩
 rw [hR]
 unfold callR at hR
 have HR := Aside0.mk hR
 clear h hR
 have HL := Aside0.mk hL
 clear hL
 go_enter Tryz.func154, Tryz.ntmps154
 go_wp2_with fail
 have B2 := Aside0.mk (blk_new w (.cells #[.int .i64 0, .string ⟨#[]⟩, .int .i64 0, .int .i64 0, .slice none 0 0, .int .i64 0, .string ⟨#[]⟩, .int .i64 0, .slice none 0 0, .slice none 0 0, .slice none 0 0, .slice none 0 0] 41 (0, 0)))
 replace HP := Aside0.mk (HP.out.alloc (.cells #[.int .i64 0, .string ⟨#[]⟩, .int .i64 0, .int .i64 0, .slice none 0 0, .int .i64 0, .string ⟨#[]⟩, .int .i64 0, .slice none 0 0, .slice none 0 0, .slice none 0 0, .slice none 0 0] 41 (0, 0)))
 replace HK := Aside0.mk (keep_alloc HK.out (.cells #[.int .i64 0, .string ⟨#[]⟩, .int .i64 0, .int .i64 0, .slice none 0 0, .int .i64 0, .string ⟨#[]⟩, .int .i64 0, .slice none 0 0, .slice none 0 0, .slice none 0 0, .slice none 0 0] 41 (0, 0)))
 refine (number_calls HP.out HL.out).mono ?_
 intro e w1 hp
 unfold POut at hp
 cases h1 : numberR ws k with
 | error f =>
  rw [h1] at hp
  have hr := HR.out
  rw [h1] at hr
  replace HR := Aside0.mk (show (.error f) = R from hr)
  clear hr h1
  obtain ⟨rfl, hb⟩ := hp
  have HR2 := Aside0.mk (show R = .error f from HR.out.symm)
  have HBB := Aside0.mk hb
  clear HR hb
  go_wp2_with fail
  exact ⟨rfl, by rw [HR2.out]; exact ⟨rfl, HBB.out⟩⟩
 | ok x =>
 obtain ⟨x, kx⟩ := x
 rw [h1] at hp
 dsimp only at hp
 obtain ⟨ux, rfl, rfl, hp1, hk1⟩ := hp
 have hr := HR.out
 rw [h1] at hr
 dsimp only at hr
 replace HR := Aside0.mk hr
 clear hr h1
 replace B2 := Aside0.mk (KeepBut.blk hk1 B2.out NE2.out (by simp))
 replace HK := Aside0.mk (KeepBut.trans HK.out hk1 (.inl rfl))
 replace HP := Aside0.mk hp1
 clear hp1 hk1
 go_wp2_with ((with_reducible refine gate_store (t := 41) (p := 5) rfl ?_); refine store_whole rfl rfl 41 _ _ rfl w1.heap.size _ 41 rfl (blk_new _ _) _ rfl rfl rfl (by simp [Value.oneCell']) ?_; intro w2 hb2 hg2; have NE3 := Aside0.mk (Nat.ne_of_gt HP.out.lt : w1.heap.size ≠ g); have LT3 := Aside0.mk (blk_lt B2.out); replace B2 := Aside0.mk (blk_as B2.out hg2); replace HP := Aside0.mk (HP.out.as hg2); replace HK := Aside0.mk (KeepBut.trans HK.out (KeepBut.of_below (below_as (Below.refl _ _) hg2) g none) (.inl rfl)); have B3 := Aside0.mk hb2; clear hb2 hg2)
 refine (want_lits HP.out [opnS] (by decide) _ rfl 1 rfl).mono ?_
 intro e w3 hp
 unfold POut0 at hp
 try simp only [wantsR] at hp
 cases h1 : wantR ws opnS kx with
 | error f =>
  rw [h1] at hp
  have hr := HR.out
  rw [h1] at hr
  replace HR := Aside0.mk (show (.error f) = R from hr)
  clear hr h1
  obtain ⟨rfl, hb⟩ := hp
  have HR2 := Aside0.mk (show R = .error f from HR.out.symm)
  have HBB := Aside0.mk hb
  clear HR hb
  go_wp2_with fail
  exact ⟨rfl, by rw [HR2.out]; exact ⟨rfl, HBB.out⟩⟩
 | ok k2 =>
 rw [h1] at hp
 obtain ⟨rfl, hp1, hk1⟩ := hp
 have hr := HR.out
 rw [h1] at hr
 dsimp only at hr
 replace HR := Aside0.mk hr
 clear hr h1
 replace B2 := Aside0.mk (KeepBut.blk hk1 B2.out NE2.out (by simp))
 replace B3 := Aside0.mk (KeepBut.blk hk1 B3.out NE3.out (by simp))
 replace HK := Aside0.mk (KeepBut.trans HK.out hk1 (.inl rfl))
 replace HP := Aside0.mk hp1
 clear hp1 hk1
 go_wp2_with fail
 refine (number_calls HP.out HL.out).mono ?_
 intro e w4 hp
 unfold POut at hp
 cases h1 : numberR ws k2 with
 | error f =>
  rw [h1] at hp
  have hr := HR.out
  rw [h1] at hr
  replace HR := Aside0.mk (show (.error f) = R from hr)
  clear hr h1
  obtain ⟨rfl, hb⟩ := hp
  have HR2 := Aside0.mk (show R = .error f from HR.out.symm)
  have HBB := Aside0.mk hb
  clear HR hb
  go_wp2_with fail
  exact ⟨rfl, by rw [HR2.out]; exact ⟨rfl, HBB.out⟩⟩
 | ok y =>
 obtain ⟨y, ky⟩ := y
 rw [h1] at hp
 dsimp only at hp
 obtain ⟨uy, rfl, rfl, hp1, hk1⟩ := hp
 have hr := HR.out
 rw [h1] at hr
 dsimp only at hr
 replace HR := Aside0.mk hr
 clear hr h1
 replace B2 := Aside0.mk (KeepBut.blk hk1 B2.out NE2.out (by simp))
 replace B3 := Aside0.mk (KeepBut.blk hk1 B3.out NE3.out (by simp))
 replace HK := Aside0.mk (KeepBut.trans HK.out hk1 (.inl rfl))
 replace HP := Aside0.mk hp1
 clear hp1 hk1
 have c3_2 := (blk_cell B3.out 2).trans rfl
 have f3_2 := blk_frozen B3.out 2
 go_wp2_with fail
 clear c3_2 f3_2
 replace B3 := Aside0.mk (show (w4.setCell ⟨w1.heap.size, 2, none⟩ (.int .i64 y)).heap[w1.heap.size]? = some (.cells #[.int .i64 op, .string ⟨#[]⟩, .int .i64 y, .int .i64 x, .slice none 0 0, .int .i64 0, .string ⟨#[]⟩, .int .i64 0, .slice none 0 0, .slice none 0 0, .slice none 0 0, .slice none 0 0] 41 (0, 0)) from blk_put (cs := #[.int .i64 op, .string ⟨#[]⟩, .int .i64 0, .int .i64 x, .slice none 0 0, .int .i64 0, .string ⟨#[]⟩, .int .i64 0, .slice none 0 0, .slice none 0 0, .slice none 0 0, .slice none 0 0]) B3.out 2 (.int .i64 y) rfl)
 replace B2 := Aside0.mk (blk_far (p := ⟨w1.heap.size, 2, none⟩) B2.out (by have := LT3.out; show w.heap.size ≠ w1.heap.size; omega) (.int .i64 y))
 replace HP := Aside0.mk (HP.out.set_far NE3.out (by have := LE2.out; have := LT3.out; omega) 2 (.int .i64 y))
 replace HK := Aside0.mk (keep_set_far (w := w) (b := w1.heap.size) HK.out (by have := LT3.out; omega) 2 (.int .i64 y))
 refine (want_lits_at HP.out [clsS] (by decide) _ rfl 1 rfl w4.heap.size (by simp)).mono ?_
 intro e w5 hp
 unfold POut0 at hp
 try simp only [wantsR] at hp
 cases h1 : wantR ws clsS ky with
 | error f =>
  rw [h1] at hp
  have hr := HR.out
  rw [h1] at hr
  replace HR := Aside0.mk (show (.error f) = R from hr)
  clear hr h1
  obtain ⟨rfl, hb⟩ := hp
  have HR2 := Aside0.mk (show R = .error f from HR.out.symm)
  have HBB := Aside0.mk hb
  clear HR hb
  go_wp2_with fail
  exact ⟨rfl, by rw [HR2.out]; exact ⟨rfl, HBB.out⟩⟩
 | ok k4 =>
 rw [h1] at hp
 obtain ⟨rfl, hp1, hk1⟩ := hp
 have hr := HR.out
 rw [h1] at hr
 dsimp only at hr
 replace HR := Aside0.mk hr
 clear hr h1
 replace B2 := Aside0.mk (KeepBut.blk hk1 B2.out NE2.out (by simp))
 replace B3 := Aside0.mk (KeepBut.blk hk1 B3.out NE3.out (by simp))
 replace HK := Aside0.mk (KeepBut.trans HK.out hk1 (.inl rfl))
 replace HP := Aside0.mk hp1
 clear hp1 hk1
 have c3_0 := (blk_cell B3.out 0).trans rfl
 have c3_1 := (blk_cell B3.out 1).trans rfl
 have c3_2 := (blk_cell B3.out 2).trans rfl
 have c3_3 := (blk_cell B3.out 3).trans rfl
 have c3_4 := (blk_cell B3.out 4).trans rfl
 have c3_5 := (blk_cell B3.out 5).trans rfl
 have c3_6 := (blk_cell B3.out 6).trans rfl
 have c3_7 := (blk_cell B3.out 7).trans rfl
 have c3_8 := (blk_cell B3.out 8).trans rfl
 have c3_9 := (blk_cell B3.out 9).trans rfl
 have c3_10 := (blk_cell B3.out 10).trans rfl
 have c3_11 := (blk_cell B3.out 11).trans rfl
 go_wp2_with ((with_reducible refine gate_store (t := 41) (p := 4) rfl ?_); refine store_whole rfl rfl 41 _ _ rfl w.heap.size _ 41 rfl B2.out _ rfl rfl rfl (by simp [Value.oneCell']) ?_; intro wf hbf hgf; have HBF := Aside0.mk hbf; have HGF := Aside0.mk hgf; clear hbf hgf)
 refine bodyPost_ret (results_c1 rfl _ _ w.heap.size 41 _ (0, 0) _ rfl HBF.out HU.out rfl rfl) rfl ?_
 rw [← HR.out]
 exact POut.fin HP.out HK.out HGF.out NE2.out LE2.out (Nat.le_refl _) rfl
def ChI (wb : World) (g gx b3 : Nat) (nm : ByteArray) (W : World) (l : List (Int × List FS)) (k : Nat) : Prop :=
 W.heap[gx]? = some (.cells #[.pointer (some ⟨g, 0, none⟩)] 95 (0, 0)) ∧ (∃ v, W.heap[b3]? = some (.cells #[.int .i64 5, .string nm, .int .i64 0, .int .i64 0, .slice none 0 0, .int .i64 0, .string ⟨#[]⟩, .int .i64 0, .slice none 0 0, .slice none 0 0, .slice none 0 0, v] 41 (0, 0)) ∧ kFA.R 147 W wb.heap.size (fun _ => True) v l ∧ l.length ≤ k) ∧ KeepBut wb W g (some b3)
theorem keep_row {W W1 : World} (h : KeepBut W W1 g none) (row : Option Nat) : KeepBut W W1 g row := ⟨h.1, fun i hi hn _ => h.2 i hi hn (by simp)⟩
theorem keep_row_set {W : World} {b : Nat} (h : KeepBut w W g (some b)) (j : Nat) (u : Value) : KeepBut w (W.setCell ⟨b, j, none⟩ u) g (some b) :=
 ⟨by simpa [World.setCell] using h.1, fun i hi hn hr => (Below.heap_setCell W ⟨b, j, none⟩ u i (fun e => hr (by rw [e]))).trans (h.2 i hi hn hr)⟩
theorem keep_row_grown {W wf : World} {b : Nat} {v : Value} (hk : KeepBut w W g (some b)) (hg : W.grownBy wf v.ownBlock) (hb : ∀ k, v.ownBlock = some k → w.heap.size ≤ k) : KeepBut w wf g (some b) := by
 refine ⟨Nat.le_trans hk.1 hg.size, fun i hi hn hr => ?_⟩
 rw [hg.block i (Nat.lt_of_lt_of_le hi hk.1) (fun e => by have := hb i e.symm; omega)]
 exact hk.2 i hi hn hr
theorem R_setc {α : Type} {d : Kd α} {e base : Nat} {W : World} {b : Nat} {v : Value} {xs : List α} (h : d.R e W base (fun _ => True) v xs) (hb : b < base) (j : Nat) (u : Value) : d.R e (W.setCell ⟨b, j, none⟩ u) base (fun _ => True) v xs :=
 Kd.R_mono (Kd.R_far (p := ⟨b, j, none⟩) (Kd.R_mono (Kd.R_bound h) (fun k hk => hk.2.1)) (fun k hk e => by rw [e] at hk; exact absurd hk (by show ¬ base ≤ b; omega)) u) (fun _ _ => trivial)
theorem R_base {α : Type} {d : Kd α} {e base : Nat} {ok : Nat → Prop} {v : Value} {xs : List α} (h : d.R e w base ok v xs) : ∀ k, v.ownBlock = some k → base ≤ k := by
 obtain ⟨_, _, ho, _⟩ := h
 exact own_base ho
theorem R_typed {α : Type} {d : Kd α} {e base : Nat} {ok : Nat → Prop} {v : Value} {xs : List α} (h : d.R e w base ok v xs) : ∀ k, v.ownBlock = some k → ∃ cells, w.heap[k]? = some (.cells cells e (0, 0)) := by
 obtain ⟨_, _, ho, _⟩ := h
 exact own_typed ho
theorem M_arm {W : World} {b b' : Nat} {n : Int} {bl : List FS} {u : Value} (h : kFS.R 41 W b (fun _ => True) u bl) (hbb : b' ≤ b) : kFA.M W b' (fun k => b ≤ k) (n, bl) [.int .i64 n, u] :=
 kFA_mkM W b' _ (n, bl) (Kd.R_lower (Kd.R_mono (Kd.R_bound h) (fun k hk => hk.2.1)) hbb)
set_option maxHeartbeats 2000000 in
theorem choice1_calls (blk : Rd (List FS)) (hbf : Fwd blk) (hb : ∀ (W : World) (k' : Nat), PS w0 W g ws k' o → Calls Tryz.prog 83 #[.pointer (some ⟨g, 0, none⟩)] W (POut (retB W.heap.size) w0 W g ws o (blk k')))
  (wb : World) (gx b3 : Nat) (nm : ByteArray) (hgx : gx ≠ g) (hb3 : b3 ≠ g) (hbx : gx ≠ b3) (hl0 : w0.heap.size ≤ b3) (hlb : b3 < wb.heap.size) (l : List (Int × List FS)) (h : PS w0 w g ws k o) (hL : LaidR w0) (hI : ChI wb g gx b3 nm w l k) :
  Calls Tryz.prog 180 #[.pointer (some ⟨gx, 0, none⟩), .pointer (some ⟨b3, 0, none⟩)] w (TOut (ChI wb g gx b3 nm) w0 g ws o (armR ws blk l k)) := by
 have HX := Aside0.mk hb
 have HU := Aside0.mk Tryz.underlying39
 have NEx := Aside0.mk hgx
 have NE3 := Aside0.mk hb3
 have NX3 := Aside0.mk hbx
 have L03 := Aside0.mk hl0
 have LB3 := Aside0.mk hlb
 obtain ⟨hbx_, ⟨v, hb3_, hrv, hll⟩, hkw⟩ := hI
 have BX := Aside0.mk hbx_
 have B3 := Aside0.mk hb3_
 have HRV := Aside0.mk hrv
 have HKW := Aside0.mk hkw
 have HLL := Aside0.mk hll
 have HFW := Aside0.mk hbf
 clear hb hgx hb3 hbx hl0 hlb hbx_ hb3_ hrv hkw hll hbf
 have HP := Aside0.mk h
 have HK := Aside0.mk (KeepBut.refl w g none)
 obtain ⟨R, hR⟩ : ∃ R, armR ws blk l k = R := ⟨_, rfl⟩
 rw [hR]
 unfold armR at hR
 have HR := Aside0.mk hR
 clear h hR
 have HL := Aside0.mk hL
 clear hL
 have cx := (blk_cell BX.out 0).trans rfl
 go_enter Tryz.func180, Tryz.ntmps180
 go_wp2_with fail
 clear cx
 refine (want_lits HP.out [caseS] (by decide) _ rfl 1 rfl).mono ?_
 intro e w1 hp
 unfold POut0 at hp
 try simp only [wantsR] at hp
 cases h1 : wantR ws caseS k with
 | error f =>
  rw [h1] at hp
  have hr := HR.out
  rw [h1] at hr
  replace HR := Aside0.mk (show (.error f) = R from hr)
  clear hr h1
  obtain ⟨rfl, hb⟩ := hp
  have HR2 := Aside0.mk (show R = .error f from HR.out.symm)
  have HBB := Aside0.mk hb
  clear HR hb
  go_wp2_with fail
  exact ⟨rfl, by rw [HR2.out]; exact ⟨rfl, HBB.out⟩⟩
 | ok k1 =>
 rw [h1] at hp
 obtain ⟨rfl, hp1, hk1⟩ := hp
 have hr := HR.out
 rw [h1] at hr
 dsimp only at hr
 replace HR := Aside0.mk hr
 have hkk1 := wantR_fwd h1
 clear hr h1
 replace BX := Aside0.mk (KeepBut.blk hk1 BX.out NEx.out (by simp))
 replace B3 := Aside0.mk (KeepBut.blk hk1 B3.out NE3.out (by simp))
 replace HRV := Aside0.mk (HP.out.keepR (by decide) HRV.out hk1)
 replace HK := Aside0.mk (KeepBut.trans HK.out hk1 (.inl rfl)); replace HKW := Aside0.mk (KeepBut.trans HKW.out (keep_row hk1 (some b3)) (.inl rfl))
 replace HP := Aside0.mk hp1
 clear hp1 hk1
 have cx := (blk_cell BX.out 0).trans rfl
 go_wp2_with fail
 clear cx
 refine (number_calls HP.out HL.out).mono ?_
 intro e w2 hp
 unfold POut at hp
 cases h1 : numberR ws k1 with
 | error f =>
  rw [h1] at hp
  have hr := HR.out
  rw [h1] at hr
  replace HR := Aside0.mk (show (.error f) = R from hr)
  clear hr h1
  obtain ⟨rfl, hb⟩ := hp
  have HR2 := Aside0.mk (show R = .error f from HR.out.symm)
  have HBB := Aside0.mk hb
  clear HR hb
  go_wp2_with fail
  exact ⟨rfl, by rw [HR2.out]; exact ⟨rfl, HBB.out⟩⟩
 | ok n =>
 obtain ⟨n, kn⟩ := n
 have hkn := numberR_fwd _ _ _ h1
 have HK1 := Aside0.mk (show k < kn by omega)
 clear hkk1 hkn
 rw [h1] at hp
 dsimp only at hp
 obtain ⟨un, rfl, rfl, hp1, hk1⟩ := hp
 have hr := HR.out
 rw [h1] at hr
 dsimp only at hr
 replace HR := Aside0.mk hr
 clear hr h1
 replace BX := Aside0.mk (KeepBut.blk hk1 BX.out NEx.out (by simp))
 replace B3 := Aside0.mk (KeepBut.blk hk1 B3.out NE3.out (by simp))
 replace HRV := Aside0.mk (HP.out.keepR (by decide) HRV.out hk1)
 replace HK := Aside0.mk (KeepBut.trans HK.out hk1 (.inl rfl)); replace HKW := Aside0.mk (KeepBut.trans HKW.out (keep_row hk1 (some b3)) (.inl rfl))
 replace HP := Aside0.mk hp1
 clear hp1 hk1
 obtain ⟨Av, cv, rfl⟩ := Kd.R_slice HRV.out
 have cx := (blk_cell BX.out 0).trans rfl
 have c3 := (blk_cell B3.out 11).trans rfl
 go_upto_region 2 with fail
 go_region_law (first | (refine Kd.R_append_step kFA (w0 := w3) wb.heap.size (by rfl) (.tmp 9) (.tmp 14) 39 147 (.agg #[.int .i64 0, .slice none 0 0]) 32 rfl HU.out infoFA rfl (by show 0 < 2; decide) (by omega) (.slice Av l.length cv) l (n, bl) [.int .i64 n, .slice Ab bl.length cb] (fun _ => True) (fun k => w2.drew.heap.size ≤ k) rfl rfl (M_arm HRB.out HSB.out) (fun k hk => ⟨trivial, fun e => by have := R_bound_lt HRV.out _ e.symm; have h2 : w2.heap.size ≤ w2.drew.heap.size := Nat.le_refl _; omega⟩) (fun _ _ => trivial) HRV_.out (Below.refl _ _) HKW_.out.1 (by have := HLL.out; have := HP.out.le; have := HP.out.few; have := HK1.out; omega) ?_; intro v1 w6 hr6 hb6 hg6 hat6; obtain ⟨A1, c1, hv1⟩ := Kd.R_slice hr6; rw [show (l ++ [(n, bl)]).length = l.length + 1 by simp] at hv1; subst hv1; have HR6 := Aside0.mk hr6; have HG6 := Aside0.mk hg6; have B36 := Aside0.mk ((hg6.block b3 (blk_lt B3_.out) (fun e => by have := R_base HRV_.out _ e.symm; have := LB3.out; omega)).trans B3_.out); have BX6 := Aside0.mk ((hg6.block gx (blk_lt BX_.out) (fun e => by obtain ⟨cs6, h6⟩ := R_typed HRV_.out _ e.symm; rw [BX_.out] at h6; cases h6)).trans BX_.out); clear hr6 hb6 hg6 hat6; have c36 := (blk_cell B36.out 11).trans rfl; have f36 := blk_frozen B36.out 11) | (go_simp; go_at_call 83; go_loud (refine (HX.out _ kn HP.out.drew).mono ?_; intro e w3 hp; unfold POut at hp; rcases h1 : blk kn with f | bl; (focus (rw [h1] at hp; have hr := HR.out; rw [h1] at hr; have HR1 := Aside0.mk (show (.error f) = R from hr); clear hr h1; obtain ⟨rfl, hb⟩ := hp; have HR2 := Aside0.mk (show R = .error f from HR1.out.symm); have HBB := Aside0.mk hb; clear HR1 hb; go_wp2_with fail; exact ⟨rfl, by rw [HR2.out]; exact ⟨rfl, HBB.out⟩⟩)); obtain ⟨bl, kb⟩ := bl; have HLT := Aside0.mk (HFW.out _ _ _ h1); rw [h1] at hp; dsimp only at hp; obtain ⟨ub, rfl, retb, hp1, hk1⟩ := hp; have hr := HR.out; rw [h1] at hr; dsimp only at hr; have HR1 := Aside0.mk hr; clear hr h1; obtain ⟨Ab, cb, rfl⟩ := Kd.R_slice retb; have HRB := Aside0.mk retb; clear retb; have BX_ := Aside0.mk (KeepBut.blk hk1 (blk_drew BX.out) NEx.out (by simp)); have B3_ := Aside0.mk (KeepBut.blk hk1 (blk_drew B3.out) NE3.out (by simp)); have HRV_ := Aside0.mk (HP.out.drew.keepR (by decide) (Kd.R_below HRV.out (below_drew1 (Below.refl _ _))) hk1); have HKW_ := Aside0.mk (KeepBut.trans (keep_drew HKW.out) (keep_row hk1 (some b3)) (.inl rfl)); have HSB := Aside0.mk (show wb.heap.size ≤ w2.drew.heap.size from HKW.out.1); have HP_ := Aside0.mk hp1; clear hp1 hk1; have c3' := (blk_cell B3_.out 11).trans rfl; have c3a := fun (ob : Obj) => (blk_cell (blk_alloc B3_.out ob) 11).trans rfl)))
 all_goals
  clear HR
  have HR := HR1
  go_wp2_with fail
  go_end0
  rw [← HR.out]
  have hng : (Value.slice Av l.length cv).ownBlock ≠ some g := by
   obtain ⟨_, _, hb, _⟩ := HP_.out.st
   exact fun e => (Kd.R_ne HRV_.out hb (by decide)) e.symm
  have hge := R_base HRV_.out
  refine ⟨rfl, (HP_.out.grown_own HG6.out hng (fun k hk => by have := hge k hk; have := L03.out; have := LB3.out; omega)).set_far NE3.out L03.out 11 (.slice A1 (l.length + 1) c1), ?_⟩
  refine ⟨blk_far (p := ⟨b3, 11, none⟩) BX6.out NX3.out (.slice A1 (l.length + 1) c1), ⟨.slice A1 (l.length + 1) c1, blk_put (cs := #[.int .i64 5, .string nm, .int .i64 0, .int .i64 0, .slice none 0 0, .int .i64 0, .string ⟨#[]⟩, .int .i64 0, .slice none 0 0, .slice none 0 0, .slice none 0 0, (.slice Av l.length cv)]) B36.out 11 (.slice A1 (l.length + 1) c1) rfl, R_setc HR6.out LB3.out 11 _, ?_⟩, keep_row_set (keep_row_grown HKW_.out HG6.out hge) 11 _⟩
  have := HP_.out.le; have := HP_.out.few; have := HLT.out; have := HLL.out; have := HK1.out
  simp; omega
end
end Go.Proofs.YticndoihkfbpoaaGreatDoor
