/- Package reread: function. -/
import Derived.Test.YticndoihkfbpoaaGreatDoorUj
namespace Go.Proofs.YticndoihkfbpoaaGreatDoor
open Go Go.RowKit Go.Lib Go.Proofs.YticndoihkfbpoaaGreatDoorW.PrintWords Go.Proofs.YticndoihkfbpoaaGreatDoor.PScope
set_option maxRecDepth 100000
set_option linter.unusedSimpArgs false
set_option linter.unusedVariables false
section
variable {w0 w : World} {g : Nat} {ws : List ByteArray} {k : Nat} {o : Int}
theorem PS.keepR3 {α : Type} {d : Kd α} {e base b : Nat} {v : Value} {xs : List α} {w1 : World} (h : PS w0 w g ws k o) (hE : ∀ q, q ∈ e :: d.E → q ≠ 97) (hM : d.R e w base (fun _ => True) v xs) (hb : b < base) (hk : KeepBut w w1 g (some b)) : d.R e w1 base (fun _ => True) v xs := by
 obtain ⟨_, _, hbl, _⟩ := h.st
 have h2 := Kd.R_bound (Kd.R_types hM hbl hE)
 exact Kd.R_mono (Kd.R_step h2 (fun k hk2 hlt => hk.2 k hlt hk2.1.2 (fun e => by injection e with e; have := hk2.2.1; omega))) (fun _ _ => trivial)
set_option maxHeartbeats 2000000 in
theorem flags_calls (wb : World) (gx b3 : Nat) (hgx : gx ≠ g) (hb3 : b3 ≠ g) (hbx : gx ≠ b3) (hl0 : w0.heap.size ≤ b3) (hlb : b3 < wb.heap.size) (v0 v1 : Value) (n0 : Int) (l : List Int) (h : PS w0 w g ws k o) (hL : LaidR w0) (hI : CI (Kd.int .i64) 3 35 (fun v => #[v0, v1, .int .i64 n0, v, .slice none 0 0, .slice none 0 0]) wb g gx b3 w l k) :
  Calls Tryz.prog 81 #[.pointer (some ⟨b3, 0, none⟩), .pointer (some ⟨gx, 0, none⟩)] w (TOut (CI (Kd.int .i64) 3 35 (fun v => #[v0, v1, .int .i64 n0, v, .slice none 0 0, .slice none 0 0]) wb g gx b3) w0 g ws o (snocR (flagR ws) l k)) := by
 have HU := Aside0.mk Tryz.underlying32
 have HFW := Aside0.mk (numberR_fwd (ws := ws))
 have NEx := Aside0.mk hgx
 have NE3 := Aside0.mk hb3
 have NX3 := Aside0.mk hbx
 have L03 := Aside0.mk hl0
 have LB3 := Aside0.mk hlb
 obtain ⟨hbx_, ⟨v, hb3_, hrv, hll⟩, hkw⟩ := hI
 have BX := Aside0.mk hbx_
 have B3 := Aside0.mk hb3_
 have HRV := Aside0.mk hrv
 have HKW := Aside0.mk hkw
 have HLL := Aside0.mk hll
 clear hgx hb3 hbx hl0 hlb hbx_ hb3_ hrv hkw hll
 have HP := Aside0.mk h
 have HK := Aside0.mk (KeepBut.refl w g none)
 obtain ⟨R, hR⟩ : ∃ R, snocR (flagR ws) l k = R := ⟨_, rfl⟩
 rw [hR]
 unfold snocR at hR
 obtain ⟨RP, hRP⟩ : ∃ RP, flagR ws k = RP := ⟨_, rfl⟩
 rw [hRP] at hR
 unfold flagR at hRP
 have HRT := Aside0.mk hR
 have HR := Aside0.mk hRP
 have HL := Aside0.mk hL
 clear h hR hRP hL
 have HK1 := Aside0.mk (Nat.le_refl k)
 obtain ⟨Av, cv, rfl⟩ := Kd.R_slice HRV.out
 have cx := (blk_cell BX.out 0).trans rfl
 have c3 := (blk_cell B3.out 3).trans rfl
 go_enter Tryz.func81, Tryz.ntmps81
 go_upto_region 0 with fail
 go_region_law (first | (refine Kd.R_append_step (Kd.int .i64) (w0 := w3) wb.heap.size (by rfl) (.tmp 3) (.tmp 6) 32 3 (.int .i64 0) 8 rfl HU.out infoI rfl (by decide) (by omega) (.slice Av l.length cv) l n [.int .i64 n] (fun _ => True) (fun k => w.drew.heap.size ≤ k) rfl rfl (show (Kd.int .i64).M _ _ _ n [.int .i64 n] from rfl) (fun k hk => ⟨trivial, fun e => by have := R_bound_lt HRV.out _ e.symm; have h2 : w.heap.size ≤ w.drew.heap.size := Nat.le_refl _; omega⟩) (fun _ _ => trivial) HRV_.out (Below.refl _ _) HKW_.out.1 (by have := HLL.out; have := HP.out.le; have := HP.out.few; have := HK1.out; omega) ?_; intro v1 w6 hr6 hb6 hg6 hat6; obtain ⟨A1, c1, hv1⟩ := Kd.R_slice hr6; rw [show (l ++ [n]).length = l.length + 1 by simp] at hv1; subst hv1; have HR6 := Aside0.mk hr6; have HG6 := Aside0.mk hg6; have B36 := Aside0.mk ((hg6.block b3 (blk_lt B3_.out) (fun e => by have := R_base HRV_.out _ e.symm; have := LB3.out; omega)).trans B3_.out); have BX6 := Aside0.mk ((hg6.block gx (blk_lt BX_.out) (fun e => by obtain ⟨cs6, h6⟩ := R_typed HRV_.out _ e.symm; rw [BX_.out] at h6; cases h6)).trans BX_.out); clear hr6 hb6 hg6 hat6; have c36 := (blk_cell B36.out 3).trans rfl; have f36 := blk_frozen B36.out 3) | (go_simp; go_at_call 79; refine (number_calls HP.out.drew HL.out).mono ?_; intro e w3 hp; unfold POut at hp; rcases h1 : numberR ws k with f | n; (focus (rw [h1] at hp; have hr := HR.out; rw [h1] at hr; have HR1 := Aside0.mk (show (.error f) = RP from hr); clear hr h1; obtain ⟨rfl, hb⟩ := hp; have HR2 := Aside0.mk (show R = .error f by rw [← HRT.out, ← HR1.out]); have HBB := Aside0.mk hb; clear HR1 hb; go_wp2_with fail; exact ⟨rfl, by rw [HR2.out]; exact ⟨rfl, HBB.out⟩⟩)); obtain ⟨n, kn⟩ := n; rw [h1] at hp; dsimp only at hp; obtain ⟨ub, rfl, retb, hp1, hk1⟩ := hp; have hr := HR.out; rw [h1] at hr; dsimp only at hr; have HR1 := Aside0.mk hr; have HLT := Aside0.mk (HFW.out _ _ _ h1); clear hr h1; obtain rfl := retb; have BX_ := Aside0.mk (KeepBut.blk hk1 (blk_drew BX.out) NEx.out (by simp)); have B3_ := Aside0.mk (KeepBut.blk hk1 (blk_drew B3.out) NE3.out (by simp)); have HRV_ := Aside0.mk (HP.out.drew.keepR (by decide) (Kd.R_below HRV.out (below_drew1 (Below.refl _ _))) hk1); have HKW_ := Aside0.mk (KeepBut.trans (keep_drew HKW.out) (keep_row hk1 (some b3)) (.inl rfl)); have HSB := Aside0.mk (show wb.heap.size ≤ w.drew.heap.size from HKW.out.1); have HP_ := Aside0.mk hp1; clear hp1 hk1; have c3' := (blk_cell B3_.out 3).trans rfl; have c3a := fun (ob : Obj) => (blk_cell (blk_alloc B3_.out ob) 3).trans rfl))
 all_goals
  clear HR
  have HR := HR1
  have hng : (Value.slice Av l.length cv).ownBlock ≠ some g := by
   obtain ⟨_, _, hb, _⟩ := HP_.out.st
   exact fun e => (Kd.R_ne HRV_.out hb (by decide)) e.symm
  have HNG := Aside0.mk hng
  have HGE := Aside0.mk (R_base HRV_.out)
  clear hng
  have HPF := Aside0.mk ((HP_.out.grown_own HG6.out HNG.out (fun k hk => by have := HGE.out k hk; have := L03.out; have := LB3.out; omega)).set_far NE3.out L03.out 3 (.slice A1 (l.length + 1) c1))
  have HIF := Aside0.mk (show CI (Kd.int .i64) 3 35 (fun v => #[v0, v1, .int .i64 n0, v, .slice none 0 0, .slice none 0 0]) wb g gx b3 (w6.setCell ⟨b3, 3, none⟩ (.slice A1 (l.length + 1) c1)) (l ++ [n]) kn from ⟨blk_far (p := ⟨b3, 3, none⟩) BX6.out NX3.out (.slice A1 (l.length + 1) c1), ⟨(.slice A1 (l.length + 1) c1), blk_put (cs := #[v0, v1, .int .i64 n0, (.slice Av l.length cv), .slice none 0 0, .slice none 0 0]) B36.out 3 (.slice A1 (l.length + 1) c1) rfl, R_setc HR6.out LB3.out 3 _, by have := HLL.out; have := HK1.out; have := HLT.out; simp; omega⟩, keep_row_set (keep_row_grown HKW_.out HG6.out HGE.out) 3 _⟩)
  have cx6 := (blk_cell HIF.out.1 0).trans rfl
  go_wp2_with fail
  clear cx6
  have HP := HPF
  replace HK := Aside0.mk (KeepBut.refl (w6.setCell ⟨b3, 3, none⟩ (.slice A1 (l.length + 1) c1)) g none)
  refine (want_lits_at HP.out [semS] (by decide) _ rfl 1 rfl w6.heap.size (by simp)).mono ?_
  intro e w7 hp
  unfold POut0 at hp
  try simp only [wantsR] at hp
  cases h1 : wantR ws semS kn with
  | error f =>
   rw [h1] at hp
   have hr := HR.out
   rw [h1] at hr
   replace HR := Aside0.mk (show (.error f) = RP from hr)
   clear hr h1
   obtain ⟨rfl, hb⟩ := hp
   have HR2 := Aside0.mk (show R = .error f by rw [← HRT.out, ← HR.out])
   have HBB := Aside0.mk hb
   clear HR hb
   go_wp2_with fail
   exact ⟨rfl, by rw [HR2.out]; exact ⟨rfl, HBB.out⟩⟩
  | ok k7 =>
  rw [h1] at hp
  obtain ⟨rfl, hp1, hk1⟩ := hp
  have hr := HR.out
  rw [h1] at hr
  dsimp only at hr
  replace HR := Aside0.mk hr
  have hkk := wantR_fwd h1
  clear hr h1
  replace HIF := Aside0.mk (CI.mono_ (show kn ≤ k7 by omega) (CI.step (by decide) NEx.out NE3.out HP.out HIF.out hk1))
  replace HP := Aside0.mk hp1
  clear hp1 hk1
  go_wp2_with fail
  go_end0
  have hr := HRT.out
  rw [← HR.out] at hr
  dsimp only at hr
  rw [← hr]
  exact ⟨rfl, HP.out, HIF.out⟩
set_option maxHeartbeats 4000000 in
theorem parts_calls (wb : World) (gx b3 : Nat) (hgx : gx ≠ g) (hb3 : b3 ≠ g) (hbx : gx ≠ b3) (hl0 : w0.heap.size ≤ b3) (hlb : b3 < wb.heap.size) (v0 v1 : Value) (n0 : Int) (v3 : Value) (l : List S103) (h : PS w0 w g ws k o) (hL : LaidR w0) (hI : CI k103 103 35 (fun v => #[v0, v1, .int .i64 n0, v3, v, .slice none 0 0]) wb g gx b3 w l k) :
  Calls Tryz.prog 82 #[.pointer (some ⟨gx, 0, none⟩), .pointer (some ⟨b3, 0, none⟩)] w (TOut (CI k103 103 35 (fun v => #[v0, v1, .int .i64 n0, v3, v, .slice none 0 0]) wb g gx b3) w0 g ws o (snocR (partR ws) l k)) := by
 have HU := Aside0.mk Tryz.underlying33
 have HFW := Aside0.mk (numberR_fwd (ws := ws))
 have NEx := Aside0.mk hgx
 have NE3 := Aside0.mk hb3
 have NX3 := Aside0.mk hbx
 have L03 := Aside0.mk hl0
 have LB3 := Aside0.mk hlb
 obtain ⟨hbx_, ⟨v, hb3_, hrv, hll⟩, hkw⟩ := hI
 have BX := Aside0.mk hbx_
 have B3 := Aside0.mk hb3_
 have HRV := Aside0.mk hrv
 have HKW := Aside0.mk hkw
 have HLL := Aside0.mk hll
 clear hgx hb3 hbx hl0 hlb hbx_ hb3_ hrv hkw hll
 have HP := Aside0.mk h
 have HK := Aside0.mk (KeepBut.refl w g none)
 obtain ⟨R, hR⟩ : ∃ R, snocR (partR ws) l k = R := ⟨_, rfl⟩
 rw [hR]
 unfold snocR at hR
 obtain ⟨RP, hRP⟩ : ∃ RP, partR ws k = RP := ⟨_, rfl⟩
 rw [hRP] at hR
 unfold partR at hRP
 have HRT := Aside0.mk hR
 have HR := Aside0.mk hRP
 have HL := Aside0.mk hL
 clear h hR hRP hL
 have cx := (blk_cell BX.out 0).trans rfl
 go_enter Tryz.func82, Tryz.ntmps82
 go_wp2_with fail
 clear cx
 refine (want_lits HP.out [opnS] (by decide) _ rfl 1 rfl).mono ?_
 intro e w1 hp
 unfold POut0 at hp
 try simp only [wantsR] at hp
 cases h1 : wantR ws opnS k with
 | error f =>
  rw [h1] at hp
  have hr := HR.out
  rw [h1] at hr
  replace HR := Aside0.mk (show (.error f) = RP from hr)
  clear hr h1
  obtain ⟨rfl, hb⟩ := hp
  have HR2 := Aside0.mk (show R = .error f by rw [← HRT.out, ← HR.out])
  have HBB := Aside0.mk hb
  clear HR hb
  go_wp2_with fail
  exact ⟨rfl, by rw [HR2.out]; exact ⟨rfl, HBB.out⟩⟩
 | ok k1 =>
 rw [h1] at hp
 obtain ⟨rfl, hp1, hk1⟩ := hp
 have hr := HR.out
 rw [h1] at hr
 dsimp only at hr
 replace HR := Aside0.mk hr
 have hkk1 := wantR_fwd h1
 clear hr h1
 replace BX := Aside0.mk (KeepBut.blk hk1 BX.out NEx.out (by simp))
 replace B3 := Aside0.mk (KeepBut.blk hk1 B3.out NE3.out (by simp))
 replace HRV := Aside0.mk (HP.out.keepR (by decide) HRV.out hk1)
 replace HK := Aside0.mk (KeepBut.trans HK.out hk1 (.inl rfl)); replace HKW := Aside0.mk (KeepBut.trans HKW.out (keep_row hk1 (some b3)) (.inl rfl))
 replace HP := Aside0.mk hp1
 clear hp1 hk1
 have cx := (blk_cell BX.out 0).trans rfl
 go_wp2_with fail
 clear cx
 refine (number_calls HP.out HL.out).mono ?_
 intro e w2 hp
 unfold POut at hp
 cases h1 : numberR ws k1 with
 | error f =>
  rw [h1] at hp
  have hr := HR.out
  rw [h1] at hr
  replace HR := Aside0.mk (show (.error f) = RP from hr)
  clear hr h1
  obtain ⟨rfl, hb⟩ := hp
  have HR2 := Aside0.mk (show R = .error f by rw [← HRT.out, ← HR.out])
  have HBB := Aside0.mk hb
  clear HR hb
  go_wp2_with fail
  exact ⟨rfl, by rw [HR2.out]; exact ⟨rfl, HBB.out⟩⟩
 | ok a =>
 obtain ⟨a, ka⟩ := a
 have hkka := numberR_fwd _ _ _ h1
 rw [h1] at hp
 dsimp only at hp
 obtain ⟨ua, rfl, rfl, hp1, hk1⟩ := hp
 have hr := HR.out
 rw [h1] at hr
 dsimp only at hr
 replace HR := Aside0.mk hr
 clear hr h1
 replace BX := Aside0.mk (KeepBut.blk hk1 BX.out NEx.out (by simp))
 replace B3 := Aside0.mk (KeepBut.blk hk1 B3.out NE3.out (by simp))
 replace HRV := Aside0.mk (HP.out.keepR (by decide) HRV.out hk1)
 replace HK := Aside0.mk (KeepBut.trans HK.out hk1 (.inl rfl)); replace HKW := Aside0.mk (KeepBut.trans HKW.out (keep_row hk1 (some b3)) (.inl rfl))
 replace HP := Aside0.mk hp1
 clear hp1 hk1
 have cx := (blk_cell BX.out 0).trans rfl
 go_wp2_with fail
 clear cx
 refine (want_lits HP.out [comS] (by decide) _ rfl 1 rfl).mono ?_
 intro e w5 hp
 unfold POut0 at hp
 try simp only [wantsR] at hp
 cases h1 : wantR ws comS ka with
 | error f =>
  rw [h1] at hp
  have hr := HR.out
  rw [h1] at hr
  replace HR := Aside0.mk (show (.error f) = RP from hr)
  clear hr h1
  obtain ⟨rfl, hb⟩ := hp
  have HR2 := Aside0.mk (show R = .error f by rw [← HRT.out, ← HR.out])
  have HBB := Aside0.mk hb
  clear HR hb
  go_wp2_with fail
  exact ⟨rfl, by rw [HR2.out]; exact ⟨rfl, HBB.out⟩⟩
 | ok k5 =>
 rw [h1] at hp
 obtain ⟨rfl, hp1, hk1⟩ := hp
 have hr := HR.out
 rw [h1] at hr
 dsimp only at hr
 replace HR := Aside0.mk hr
 have hkk5 := wantR_fwd h1
 have HK1 := Aside0.mk (show k ≤ k5 by omega)
 clear hr h1 hkk1 hkka hkk5
 replace BX := Aside0.mk (KeepBut.blk hk1 BX.out NEx.out (by simp))
 replace B3 := Aside0.mk (KeepBut.blk hk1 B3.out NE3.out (by simp))
 replace HRV := Aside0.mk (HP.out.keepR (by decide) HRV.out hk1)
 replace HK := Aside0.mk (KeepBut.trans HK.out hk1 (.inl rfl)); replace HKW := Aside0.mk (KeepBut.trans HKW.out (keep_row hk1 (some b3)) (.inl rfl))
 replace HP := Aside0.mk hp1
 clear hp1 hk1
 obtain ⟨Av, cv, rfl⟩ := Kd.R_slice HRV.out
 have cx := (blk_cell BX.out 0).trans rfl
 have c3 := (blk_cell B3.out 4).trans rfl
 go_upto_region 3 with fail
 go_region_law (first | (refine Kd.R_append_step (k103) (w0 := w3) wb.heap.size (by rfl) (.tmp 12) (.tmp 17) 33 103 (.agg #[.int .i64 0, .int .i64 0]) 16 rfl HU.out infoP rfl (by show 0 < 2; decide) (by omega) (.slice Av l.length cv) l (⟨a, b⟩ : S103) [.int .i64 a, .int .i64 b] (fun _ => True) (fun k => w5.drew.heap.size ≤ k) rfl rfl (show k103.M _ _ _ ⟨a, b⟩ [.int .i64 a, .int .i64 b] from ⟨[.int .i64 a], [.int .i64 b], rfl, rfl, rfl⟩) (fun k hk => ⟨trivial, fun e => by have := R_bound_lt HRV.out _ e.symm; have h2 : w5.heap.size ≤ w5.drew.heap.size := Nat.le_refl _; omega⟩) (fun _ _ => trivial) HRV_.out (Below.refl _ _) HKW_.out.1 (by have := HLL.out; have := HP.out.le; have := HP.out.few; have := HK1.out; omega) ?_; intro v1 w6 hr6 hb6 hg6 hat6; obtain ⟨A1, c1, hv1⟩ := Kd.R_slice hr6; rw [show (l ++ [(⟨a, b⟩ : S103)]).length = l.length + 1 by simp] at hv1; subst hv1; have HR6 := Aside0.mk hr6; have HG6 := Aside0.mk hg6; have B36 := Aside0.mk ((hg6.block b3 (blk_lt B3_.out) (fun e => by have := R_base HRV_.out _ e.symm; have := LB3.out; omega)).trans B3_.out); have BX6 := Aside0.mk ((hg6.block gx (blk_lt BX_.out) (fun e => by obtain ⟨cs6, h6⟩ := R_typed HRV_.out _ e.symm; rw [BX_.out] at h6; cases h6)).trans BX_.out); clear hr6 hb6 hg6 hat6; have c36 := (blk_cell B36.out 4).trans rfl; have f36 := blk_frozen B36.out 4) | (go_simp; go_at_call 79; refine (number_calls HP.out.drew HL.out).mono ?_; intro e w3 hp; unfold POut at hp; rcases h1 : numberR ws k5 with f | b; (focus (rw [h1] at hp; have hr := HR.out; rw [h1] at hr; have HR1 := Aside0.mk (show (.error f) = RP from hr); clear hr h1; obtain ⟨rfl, hb⟩ := hp; have HR2 := Aside0.mk (show R = .error f by rw [← HRT.out, ← HR1.out]); have HBB := Aside0.mk hb; clear HR1 hb; go_wp2_with fail; exact ⟨rfl, by rw [HR2.out]; exact ⟨rfl, HBB.out⟩⟩)); obtain ⟨b, kb⟩ := b; rw [h1] at hp; dsimp only at hp; obtain ⟨ub, rfl, retb, hp1, hk1⟩ := hp; have hr := HR.out; rw [h1] at hr; dsimp only at hr; have HR1 := Aside0.mk hr; have HLT := Aside0.mk (HFW.out _ _ _ h1); clear hr h1; obtain rfl := retb; have BX_ := Aside0.mk (KeepBut.blk hk1 (blk_drew BX.out) NEx.out (by simp)); have B3_ := Aside0.mk (KeepBut.blk hk1 (blk_drew B3.out) NE3.out (by simp)); have HRV_ := Aside0.mk (HP.out.drew.keepR (by decide) (Kd.R_below HRV.out (below_drew1 (Below.refl _ _))) hk1); have HKW_ := Aside0.mk (KeepBut.trans (keep_drew HKW.out) (keep_row hk1 (some b3)) (.inl rfl)); have HSB := Aside0.mk (show wb.heap.size ≤ w5.drew.heap.size from HKW.out.1); have HP_ := Aside0.mk hp1; clear hp1 hk1; have c3' := (blk_cell B3_.out 4).trans rfl; have c3a := fun (ob : Obj) => (blk_cell (blk_alloc B3_.out ob) 4).trans rfl))
 all_goals
  clear HR
  have HR := HR1
  have hng : (Value.slice Av l.length cv).ownBlock ≠ some g := by
   obtain ⟨_, _, hb, _⟩ := HP_.out.st
   exact fun e => (Kd.R_ne HRV_.out hb (by decide)) e.symm
  have HNG := Aside0.mk hng
  have HGE := Aside0.mk (R_base HRV_.out)
  clear hng
  have HPF := Aside0.mk ((HP_.out.grown_own HG6.out HNG.out (fun k hk => by have := HGE.out k hk; have := L03.out; have := LB3.out; omega)).set_far NE3.out L03.out 4 (.slice A1 (l.length + 1) c1))
  have HIF := Aside0.mk (show CI (k103) 103 35 (fun v => #[v0, v1, .int .i64 n0, v3, v, .slice none 0 0]) wb g gx b3 (w6.setCell ⟨b3, 4, none⟩ (.slice A1 (l.length + 1) c1)) (l ++ [(⟨a, b⟩ : S103)]) kb from ⟨blk_far (p := ⟨b3, 4, none⟩) BX6.out NX3.out (.slice A1 (l.length + 1) c1), ⟨(.slice A1 (l.length + 1) c1), blk_put (cs := #[v0, v1, .int .i64 n0, v3, (.slice Av l.length cv), .slice none 0 0]) B36.out 4 (.slice A1 (l.length + 1) c1) rfl, R_setc HR6.out LB3.out 4 _, by have := HLL.out; have := HK1.out; have := HLT.out; simp; omega⟩, keep_row_set (keep_row_grown HKW_.out HG6.out HGE.out) 4 _⟩)
  have cx6 := (blk_cell HIF.out.1 0).trans rfl
  go_wp2_with fail
  clear cx6
  have HP := HPF
  replace HK := Aside0.mk (KeepBut.refl (w6.setCell ⟨b3, 4, none⟩ (.slice A1 (l.length + 1) c1)) g none)
  refine (want_lits_at HP.out [clsS, semS] (by decide) _ rfl 2 rfl w6.heap.size (by simp)).mono ?_
  intro e w7 hp
  unfold POut0 at hp
  simp only [wantsR] at hp
  cases h1 : wantR ws clsS kb with
  | error f =>
   rw [h1] at hp
   have hr := HR.out
   rw [h1] at hr
   replace HR := Aside0.mk (show (.error f) = RP from hr)
   clear hr h1
   obtain ⟨rfl, hb⟩ := hp
   have HR2 := Aside0.mk (show R = .error f by rw [← HRT.out, ← HR.out])
   have HBB := Aside0.mk hb
   clear HR hb
   go_wp2_with fail
   exact ⟨rfl, by rw [HR2.out]; exact ⟨rfl, HBB.out⟩⟩
  | ok k7 =>
  have hr := HR.out
  rw [h1] at hr hp
  dsimp only at hr hp
  replace HR := Aside0.mk hr
  clear hr
  have hkk := wantR_fwd h1
  clear h1
  cases h1 : wantR ws semS k7 with
  | error f =>
   rw [h1] at hp
   have hr := HR.out
   rw [h1] at hr
   replace HR := Aside0.mk (show (.error f) = RP from hr)
   clear hr h1
   obtain ⟨rfl, hb⟩ := hp
   have HR2 := Aside0.mk (show R = .error f by rw [← HRT.out, ← HR.out])
   have HBB := Aside0.mk hb
   clear HR hb
   go_wp2_with fail
   exact ⟨rfl, by rw [HR2.out]; exact ⟨rfl, HBB.out⟩⟩
  | ok k8 =>
  rw [h1] at hp
  obtain ⟨rfl, hp1, hk1⟩ := hp
  have hr := HR.out
  rw [h1] at hr
  dsimp only at hr
  replace HR := Aside0.mk hr
  have hkk2 := wantR_fwd h1
  clear hr h1
  replace HIF := Aside0.mk (CI.mono_ (show kb ≤ k8 by omega) (CI.step (by decide) NEx.out NE3.out HP.out HIF.out hk1))
  replace HP := Aside0.mk hp1
  clear hp1 hk1
  go_wp2_with fail
  go_end0
  have hr := HRT.out
  rw [← HR.out] at hr
  dsimp only at hr
  rw [← hr]
  exact ⟨rfl, HP.out, HIF.out⟩
end
end Go.Proofs.YticndoihkfbpoaaGreatDoor
