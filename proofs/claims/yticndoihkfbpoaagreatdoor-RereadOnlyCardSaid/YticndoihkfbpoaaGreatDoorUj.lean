/- Package reread: block, function. -/
import Derived.Test.YticndoihkfbpoaaGreatDoorUi
namespace Go.Proofs.YticndoihkfbpoaaGreatDoor
open Go Go.RowKit Go.Lib Go.Proofs.YticndoihkfbpoaaGreatDoorW.PrintWords Go.Proofs.YticndoihkfbpoaaGreatDoor.PScope
set_option maxRecDepth 100000
set_option linter.unusedSimpArgs false
set_option linter.unusedVariables false
def CI {α : Type} (d : Kd α) (e T : Nat) (C : Value → Array Value) (wb : World) (g gx b3 : Nat) (W : World) (l : List α) (k : Nat) : Prop :=
 W.heap[gx]? = some (.cells #[.pointer (some ⟨g, 0, none⟩)] 95 (0, 0)) ∧ (∃ v, W.heap[b3]? = some (.cells (C v) T (0, 0)) ∧ d.R e W wb.heap.size (fun _ => True) v l ∧ l.length ≤ k) ∧ KeepBut wb W g (some b3)
theorem CI.step {α : Type} {d : Kd α} {e T : Nat} {C : Value → Array Value} {wb w0 W W1 : World} {g gx b3 : Nat} {ws : List ByteArray} {l : List α} {k k2 : Nat} {o : Int} (hE : ∀ q, q ∈ e :: d.E → q ≠ 97) (hgx : gx ≠ g) (hb3 : b3 ≠ g) (h : PS w0 W g ws k o) (hI : CI d e T C wb g gx b3 W l k2) (hk : KeepBut W W1 g none) : CI d e T C wb g gx b3 W1 l k2 := by
 obtain ⟨h1, ⟨v, h2, h3, h4⟩, h5⟩ := hI
 exact ⟨KeepBut.blk hk h1 hgx (by simp), ⟨v, KeepBut.blk hk h2 hb3 (by simp), h.keepR hE h3 hk, h4⟩, KeepBut.trans h5 (keep_row hk (some b3)) (.inl rfl)⟩
theorem CI.mono_ {α : Type} {d : Kd α} {e T : Nat} {C : Value → Array Value} {wb W : World} {g gx b3 : Nat} {l : List α} {k k' : Nat} (hk : k ≤ k') (hI : CI d e T C wb g gx b3 W l k) : CI d e T C wb g gx b3 W l k' := by
 obtain ⟨h1, ⟨v, h2, h3, h4⟩, h5⟩ := hI
 exact ⟨h1, ⟨v, h2, h3, by omega⟩, h5⟩
theorem kFS_open12 {w : World} {base : Nat} {ok : Nat → Prop} {x : FS} {cs : List Value} (h : kFS.M w base ok x cs) :
  ∃ v4 v8 v9 v6 v7, cs = [.int .i64 x.op, .string x.name, .int .i64 x.pos, .int .i64 x.fn, v4, .int .i64 x.e.f0, .string x.e.f1, .int .i64 x.e.f2, v8, v9, v6, v7] := by
 obtain ⟨v4, ce, v6, v7, rfl, _, g5, _, _⟩ := kFS_openM h
 obtain ⟨v8, v9, rfl, _, _⟩ := k38_openM g5
 exact ⟨v4, v8, v9, v6, v7, rfl⟩
theorem infoI : (Tryz.prog.info? 3).map (fun i => (i.zero, i.size, i.bytes)) = some (some (.int .i64 0), 1, 8) := by kernel_rfl
theorem infoP : (Tryz.prog.info? 103).map (fun i => (i.zero, i.size, i.bytes)) = some (some (.agg #[.int .i64 0, .int .i64 0]), 2, 16) := by kernel_rfl
section
variable {w0 w : World} {g : Nat} {ws : List ByteArray} {k : Nat} {o : Int}
set_option maxHeartbeats 2000000 in
theorem block1_calls (st : Rd FS) (hfs : Fwd st) (hs : ∀ (W : World) (k' : Nat), PS w0 W g ws k' o → Calls Tryz.prog 126 #[.pointer (some ⟨g, 0, none⟩)] W (POut (retF W.heap.size) w0 W g ws o (st k'))) (wb : World) (gx b3 : Nat) (hgx : gx ≠ g) (hb3 : b3 ≠ g) (hbx : gx ≠ b3) (hl0 : w0.heap.size ≤ b3) (hlb : b3 < wb.heap.size) (l : List FS) (h : PS w0 w g ws k o) (hI : CI kFS 41 30 (fun v => #[v]) wb g gx b3 w l k) :
  Calls Tryz.prog 125 #[.pointer (some ⟨b3, 0, none⟩), .pointer (some ⟨gx, 0, none⟩)] w (TOut (CI kFS 41 30 (fun v => #[v]) wb g gx b3) w0 g ws o (snocR st l k)) := by
 have HX := Aside0.mk hs
 have HFW := Aside0.mk hfs
 have HU := Aside0.mk Tryz.underlying30
 have NEx := Aside0.mk hgx
 have NE3 := Aside0.mk hb3
 have NX3 := Aside0.mk hbx
 have L03 := Aside0.mk hl0
 have LB3 := Aside0.mk hlb
 obtain ⟨hbx_, ⟨v, hb3_, hrv, hll⟩, hkw⟩ := hI
 have BX := Aside0.mk hbx_
 have B3 := Aside0.mk hb3_
 have HRV := Aside0.mk hrv
 have HKW := Aside0.mk hkw
 have HLL := Aside0.mk hll
 clear hgx hb3 hbx hl0 hlb hbx_ hb3_ hrv hkw hll hs hfs
 have HP := Aside0.mk h
 have HK := Aside0.mk (KeepBut.refl w g none)
 obtain ⟨R, hR⟩ : ∃ R, snocR st l k = R := ⟨_, rfl⟩
 rw [hR]
 unfold snocR at hR
 have HR := Aside0.mk hR
 clear h hR
 have HK1 := Aside0.mk (Nat.le_refl k)
 obtain ⟨Av, cv, rfl⟩ := Kd.R_slice HRV.out
 have cx := (blk_cell BX.out 0).trans rfl
 have c3 := (blk_cell B3.out 0).trans rfl
 go_enter Tryz.func125, Tryz.ntmps125
 go_upto_region 0 with fail
 go_region_law (first | (refine Kd.R_append_step (kFS) (w0 := w3) wb.heap.size (by rfl) (.tmp 2) (.tmp 5) 30 41 (.agg #[.int .i64 0, .string ⟨#[]⟩, .int .i64 0, .int .i64 0, .slice none 0 0, .int .i64 0, .string ⟨#[]⟩, .int .i64 0, .slice none 0 0, .slice none 0 0, .slice none 0 0, .slice none 0 0]) 192 rfl HU.out infoFS rfl (by decide) (by omega) (.slice Av l.length cv) l x [.int .i64 x.op, .string x.name, .int .i64 x.pos, .int .i64 x.fn, v4, .int .i64 x.e.f0, .string x.e.f1, .int .i64 x.e.f2, v8, v9, v6, v7] (fun _ => True) (fun k => w.drew.heap.size ≤ k) rfl rfl (M_base HMX.out HKW_.out.1 HSB.out) (fun k hk => ⟨trivial, fun e => by have := R_bound_lt HRV.out _ e.symm; have h2 : w.heap.size ≤ w.drew.heap.size := Nat.le_refl _; omega⟩) (fun _ _ => trivial) HRV_.out (Below.refl _ _) HKW_.out.1 (by have := HLL.out; have := HP.out.le; have := HP.out.few; have := HK1.out; omega) ?_; intro v1 w6 hr6 hb6 hg6 hat6; obtain ⟨A1, c1, hv1⟩ := Kd.R_slice hr6; rw [show (l ++ [x]).length = l.length + 1 by simp] at hv1; subst hv1; have HR6 := Aside0.mk hr6; have HG6 := Aside0.mk hg6; have B36 := Aside0.mk ((hg6.block b3 (blk_lt B3_.out) (fun e => by have := R_base HRV_.out _ e.symm; have := LB3.out; omega)).trans B3_.out); have BX6 := Aside0.mk ((hg6.block gx (blk_lt BX_.out) (fun e => by obtain ⟨cs6, h6⟩ := R_typed HRV_.out _ e.symm; rw [BX_.out] at h6; cases h6)).trans BX_.out); clear hr6 hb6 hg6 hat6; have c36 := (blk_cell B36.out 0).trans rfl; have f36 := blk_frozen B36.out 0) | (go_simp; go_at_call 126; refine (HX.out _ k HP.out.drew).mono ?_; intro e w3 hp; unfold POut at hp; rcases h1 : st k with f | x; (focus (rw [h1] at hp; have hr := HR.out; rw [h1] at hr; have HR1 := Aside0.mk (show (.error f) = R from hr); clear hr h1; obtain ⟨rfl, hb⟩ := hp; have HR2 := Aside0.mk (show R = .error f from HR1.out.symm); have HBB := Aside0.mk hb; clear HR1 hb; go_wp2_with fail; exact ⟨rfl, by rw [HR2.out]; exact ⟨rfl, HBB.out⟩⟩)); obtain ⟨x, kx⟩ := x; rw [h1] at hp; dsimp only at hp; obtain ⟨ub, rfl, retb, hp1, hk1⟩ := hp; have hr := HR.out; rw [h1] at hr; dsimp only at hr; have HR1 := Aside0.mk hr; have HLT := Aside0.mk (HFW.out _ _ _ h1); clear hr h1; obtain ⟨cs, rfl, hmx⟩ := retb; obtain ⟨v4, v8, v9, v6, v7, rfl⟩ := kFS_open12 hmx; have HMX := Aside0.mk hmx; clear hmx; have BX_ := Aside0.mk (KeepBut.blk hk1 (blk_drew BX.out) NEx.out (by simp)); have B3_ := Aside0.mk (KeepBut.blk hk1 (blk_drew B3.out) NE3.out (by simp)); have HRV_ := Aside0.mk (HP.out.drew.keepR (by decide) (Kd.R_below HRV.out (below_drew1 (Below.refl _ _))) hk1); have HKW_ := Aside0.mk (KeepBut.trans (keep_drew HKW.out) (keep_row hk1 (some b3)) (.inl rfl)); have HSB := Aside0.mk (show wb.heap.size ≤ w.drew.heap.size from HKW.out.1); have HP_ := Aside0.mk hp1; clear hp1 hk1; have c3' := (blk_cell B3_.out 0).trans rfl; have c3a := fun (ob : Obj) => (blk_cell (blk_alloc B3_.out ob) 0).trans rfl))
 all_goals
  clear HR
  have HR := HR1
  have hng : (Value.slice Av l.length cv).ownBlock ≠ some g := by
   obtain ⟨_, _, hb, _⟩ := HP_.out.st
   exact fun e => (Kd.R_ne HRV_.out hb (by decide)) e.symm
  have HNG := Aside0.mk hng
  have HGE := Aside0.mk (R_base HRV_.out)
  clear hng
  have HPF := Aside0.mk ((HP_.out.grown_own HG6.out HNG.out (fun k hk => by have := HGE.out k hk; have := L03.out; have := LB3.out; omega)).set_far NE3.out L03.out 0 (.slice A1 (l.length + 1) c1))
  have HIF := Aside0.mk (show CI (kFS) 41 30 (fun v => #[v]) wb g gx b3 (w6.setCell ⟨b3, 0, none⟩ (.slice A1 (l.length + 1) c1)) (l ++ [x]) kx from ⟨blk_far (p := ⟨b3, 0, none⟩) BX6.out NX3.out (.slice A1 (l.length + 1) c1), ⟨(.slice A1 (l.length + 1) c1), blk_put (cs := #[(.slice Av l.length cv)]) B36.out 0 (.slice A1 (l.length + 1) c1) rfl, R_setc HR6.out LB3.out 0 _, by have := HLL.out; have := HK1.out; have := HLT.out; simp; omega⟩, keep_row_set (keep_row_grown HKW_.out HG6.out HGE.out) 0 _⟩)
  go_wp2_with fail
  go_end0
  rw [← HR.out]
  exact ⟨rfl, HPF.out, HIF.out⟩
theorem block1_eg : ∀ args w, (callFunc 125 args).run Tryz.prog w = .ok (.enter 125 args) w := enters_of Tryz.func125 (by kernel_rfl) rfl
set_option maxHeartbeats 2000000 in
theorem block_step (st : Rd FS) (hfs : Fwd st) (hs : ∀ (W : World) (k' : Nat), PS w0 W g ws k' (o + 1) → Calls Tryz.prog 126 #[.pointer (some ⟨g, 0, none⟩)] W (POut (retF W.heap.size) w0 W g ws (o + 1) (st k'))) (h0 : 0 ≤ o) (h1 : o < 200) (h : PS w0 w g ws k o) :
  Calls Tryz.prog 83 #[.pointer (some ⟨g, 0, none⟩)] w (POut (retB w.heap.size) w0 w g ws o (tillR ws (snocR st) [] k)) := by
 have HX := Aside0.mk hs
 have HFW := Aside0.mk hfs
 have NEx : Aside0 (w.heap.size ≠ g) := ⟨Nat.ne_of_gt h.lt⟩
 have LE2 : Aside0 (w0.heap.size ≤ w.heap.size) := ⟨h.be.size⟩
 have HO := Aside0.mk (And.intro h0 h1)
 have hwo : wrap64 o = o := by unfold wrap64; omega
 have HWO := Aside0.mk hwo
 have hmf := run_mkfn
 clear hs hfs h0 h1 hwo
 have HP := Aside0.mk h
 have HK := Aside0.mk (KeepBut.refl w g none)
 obtain ⟨R, hR⟩ : ∃ R, tillR ws (snocR st) [] k = R := ⟨_, rfl⟩
 rw [hR]
 have HR := Aside0.mk hR
 clear h hR
 have BX := Aside0.mk (blk_new w (.cells #[.pointer (some ⟨g, 0, none⟩)] 95 (0, 0)))
 replace HP := Aside0.mk (HP.out.alloc (.cells #[.pointer (some ⟨g, 0, none⟩)] 95 (0, 0)))
 replace HK := Aside0.mk (keep_alloc HK.out (.cells #[.pointer (some ⟨g, 0, none⟩)] 95 (0, 0)))
 have cx := (blk_cell BX.out 0).trans rfl
 go_enter Tryz.func83, Tryz.ntmps83
 go_wp2_with fail
 clear cx
 refine (begin_calls HP.out HO.out.1 (by have := HO.out.2; omega)).mono ?_
 intro e w1 hp
 rw [if_pos HO.out.2] at hp
 obtain ⟨rfl, hp1, hk1⟩ := hp
 replace BX := Aside0.mk (KeepBut.blk hk1 BX.out NEx.out (by simp))
 replace HK := Aside0.mk (KeepBut.trans HK.out hk1 (.inl rfl))
 replace HP := Aside0.mk hp1
 clear hp1 hk1
 have NE3 : Aside0 (w1.heap.size ≠ g) := ⟨Nat.ne_of_gt HP.out.lt⟩
 have LT3 := Aside0.mk (blk_lt BX.out)
 have B3 := Aside0.mk (blk_new w1 (.cells #[.slice none 0 0] 30 (0, 0)))
 replace BX := Aside0.mk (blk_alloc BX.out (.cells #[.slice none 0 0] 30 (0, 0)))
 replace HP := Aside0.mk (HP.out.alloc (.cells #[.slice none 0 0] 30 (0, 0)))
 replace HK := Aside0.mk (keep_alloc HK.out (.cells #[.slice none 0 0] 30 (0, 0)))
 have cx := (blk_cell BX.out 0).trans rfl
 have cx1 := (blk_cell BX.out 0).trans rfl
 go_wp2_with fail
 clear cx cx1
 refine (till_calls (snocR st) (fun l => snocR_fwd HFW.out l) 125 _ _ block1_eg (CI kFS 41 30 (fun v => #[v]) (w1.alloc (.cells #[.slice none 0 0] 30 (0, 0))) g w.heap.size w1.heap.size) (fun W W1 s k_ hp hi hk => CI.step (by decide) NEx.out NE3.out hp hi hk) (fun W s k1 k2 hk hi => CI.mono_ hk hi) ?_ HP.out [] ?_).mono ?_
 ·intro W s k_ hp hi
  exact block1_calls st HFW.out HX.out (w1.alloc (.cells #[.slice none 0 0] 30 (0, 0))) w.heap.size w1.heap.size NEx.out NE3.out (by have := LT3.out; omega) (by have := LE2.out; have := LT3.out; omega) (blk_lt B3.out) s hp hi
 ·exact ⟨BX.out, ⟨_, B3.out, Kd.R_nil _ _ _ _ _, Nat.zero_le _⟩, KeepBut.refl _ _ _⟩
 intro e w3 hp
 rw [HR.out] at hp
 unfold TOut at hp
 cases R with
 | error f =>
  obtain ⟨rfl, hb⟩ := hp
  have HBB := Aside0.mk hb
  clear hb HR
  go_wp2_with fail
  exact ⟨rfl, rfl, HBB.out⟩
 | ok x =>
 obtain ⟨bl, k2⟩ := x
 dsimp only at hp
 obtain ⟨rfl, hp1, hx1, ⟨v, hb3, hrv, -⟩, hkk⟩ := hp
 have HSW := Aside0.mk (blk_lt B3.out)
 clear HR
 replace HK := Aside0.mk (KeepBut.trans HK.out hkk (.inr ⟨_, rfl, by have := LT3.out; omega⟩))
 replace HP := Aside0.mk hp1
 replace B3 := Aside0.mk hb3
 replace BX := Aside0.mk hx1
 have HRV := Aside0.mk hrv
 clear hp1 hx1 hb3 hrv hkk
 obtain ⟨Av, cv, rfl⟩ := Kd.R_slice HRV.out
 have cx := (blk_cell BX.out 0).trans rfl
 have HP2 := Aside0.mk (HP.out.open_ o)
 have B33 := Aside0.mk (blk_far (p := ⟨g, 2, none⟩) B3.out NE3.out (.int .i64 o))
 have e4_0 := (blk_cell B33.out 0).trans rfl
 have HK2 := Aside0.mk (KeepBut.set_ HK.out 2 (.int .i64 o))
 have HR2 := Aside0.mk (HP.out.keepR (by decide) HRV.out (KeepBut.set_ (KeepBut.refl _ g none) 2 (.int .i64 o)))
 obtain ⟨x1, x2, y1, y2⟩ := HP.out.cells
 have hwo := HWO.out
 go_wp2_with fail
 go_ret
 exact ⟨_, rfl, Kd.R_lower HR2.out (by have h := HSW.out; have := LT3.out; simp; omega), HP2.out, HK2.out⟩
theorem block_calls (hL : LaidR w0) : ∀ (d : Nat) (w : World) (k : Nat) (o : Int), o = 200 - (d : Int) → d ≤ 200 → PS w0 w g ws k o →
  Calls Tryz.prog 83 #[.pointer (some ⟨g, 0, none⟩)] w (POut (retB w.heap.size) w0 w g ws o (blockR ws d k)) := by
 intro d
 induction d with
 | zero =>
  intro w k o ho hd h
  have HP := Aside0.mk h
  have HO := Aside0.mk ho
  clear h ho
  have BX := Aside0.mk (blk_new w (.cells #[.pointer (some ⟨g, 0, none⟩)] 95 (0, 0)))
  have cx := (blk_cell BX.out 0).trans rfl
  go_enter Tryz.func83, Tryz.ntmps83
  go_wp2_with fail
  refine (begin_calls (HP.out.alloc (.cells #[.pointer (some ⟨g, 0, none⟩)] 95 (0, 0))) (by have := HO.out; omega) (by have := HO.out; omega)).mono ?_
  intro e w1 hp
  rw [if_neg (by have := HO.out; omega)] at hp
  obtain ⟨rfl, hb⟩ := hp
  have HBB := Aside0.mk hb
  clear hb
  go_wp2_with fail
  exact ⟨rfl, rfl, HBB.out⟩
 | succ d ih =>
  intro w k o ho hd h
  exact block_step (stmtR ws (exprR ws d) (blockR ws d)) (stmtR_fwd (exprR_fwd d) (blockR_fwd d)) (fun W k' hp => stmt_calls (blockR ws d) (blockR_fwd d) (fun W2 k2 hp2 => ih W2 k2 (o + 1) (by omega) (by omega) hp2) (exprR ws d) (exprR_fwd d) (fun W2 k2 hp2 => expr_calls hL d W2 k2 (o + 1) (by omega) (by omega) hp2) hp hL) (by omega) (by omega) h
end
end Go.Proofs.YticndoihkfbpoaaGreatDoor
