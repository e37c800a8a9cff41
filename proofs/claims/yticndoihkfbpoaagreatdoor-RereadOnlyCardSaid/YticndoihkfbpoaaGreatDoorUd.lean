/- Package reread: cells and expressions. -/
import Derived.Test.YticndoihkfbpoaaGreatDoorUc
import Derived.Test.YticndoihkfbpoaaGreatDoorUw
namespace Go.Proofs.YticndoihkfbpoaaGreatDoor
open Go Go.RowKit Go.Lib Go.Proofs.YticndoihkfbpoaaGreatDoorW.PrintWords Go.Proofs.YticndoihkfbpoaaGreatDoor.PScope
set_option maxRecDepth 100000
set_option linter.unusedSimpArgs false
set_option linter.unusedVariables false
section
variable {w0 w : World} {g : Nat} {ws : List ByteArray} {k : Nat} {o : Int}
theorem PS.keepM {α : Type} {d : Kd α} {base : Nat} {x : α} {cs : List Value} {w1 : World} (h : PS w0 w g ws k o) (hE : ∀ q, q ∈ d.E → q ≠ 97) (hM : d.M w base (fun _ => True) x cs) (hk : KeepBut w w1 g none) : d.M w1 base (fun _ => True) x cs := by
 obtain ⟨_, _, hb, _⟩ := h.st
 exact d.M_mono (fun _ _ => trivial) (Kd.M_keep (Kd.M_types hM hb hE) hk (fun _ hk => hk.2))
theorem PS.keepR {α : Type} {d : Kd α} {e base : Nat} {v : Value} {xs : List α} {w1 : World} (h : PS w0 w g ws k o) (hE : ∀ q, q ∈ e :: d.E → q ≠ 97) (hM : d.R e w base (fun _ => True) v xs) (hk : KeepBut w w1 g none) : d.R e w1 base (fun _ => True) v xs := by
 obtain ⟨_, _, hb, _⟩ := h.st
 exact Kd.R_mono (Kd.R_keep (Kd.R_types hM hb hE) hk (fun _ hk => hk.2)) (fun _ _ => trivial)
end
theorem R_lit_mk {α : Type} (d : Kd α) (e : Nat) (W : World) (base : Nat) (hb : base ≤ W.heap.size) (xs : List α) (inner : List Value) (hr : Reps (fun x cs => d.M W base (fun _ => True) x cs) d.sz xs inner) (hm : xs.length ≤ 9223372036854775807) :
  d.R e (W.alloc (.cells inner.toArray e)) base (fun _ => True) (.slice (some ⟨W.heap.size, 0, none⟩) xs.length xs.length) xs := by
 refine ⟨fun _ _ => trivial, OwnRow.lit W base (R := fun x cs => d.M (W.alloc (.cells inner.toArray e)) base (fun k => True ∧ some k ≠ (Value.slice (some ⟨W.heap.size, 0, none⟩) xs.length xs.length).ownBlock) x cs) (hr.imp_ (fun x cs h => ?_)) hb hm⟩
 refine d.M_mono (fun k hk => ⟨trivial, ?_⟩) (Kd.M_below (d.M_bound h) (below_alloc (Below.refl _ _) _))
 intro e
 have h1 := hk.2.2.1
 simp only [Value.ownBlock] at e
 injection e with e; omega
abbrev retE (b : Nat) : World → S38 → Value → Prop := fun w' x u => ∃ cs, u = .agg cs.toArray ∧ kE.M w' b (fun _ => True) x cs
section
variable {w0 w : World} {g : Nat} {ws : List ByteArray} {k : Nat} {o : Int}
theorem cell_calls (h : PS w0 w g ws k o) (hL : LaidR w0) :
  Calls Tryz.prog 152 #[.pointer (some ⟨g, 0, none⟩)] w (POut retI w0 w g ws o (cellR ws k)) := by
 have HP := Aside0.mk h
 have HK := Aside0.mk (KeepBut.refl w g none)
 obtain ⟨R, hR⟩ : ∃ R, cellR ws k = R := ⟨_, rfl⟩
 rw [hR]
 unfold cellR at hR
 have HR := Aside0.mk hR
 clear h hR
 have HL := Aside0.mk hL
 clear hL
 go_enter Tryz.func152, Tryz.ntmps152
 go_wp2_with fail
 refine (want_lits HP.out [sqoS] (by decide) _ rfl 1 rfl).mono ?_
 intro e w1 hp
 unfold POut0 at hp
 try simp only [wantsR] at hp
 cases h1 : wantR ws sqoS k with
 | error f =>
  rw [h1] at hp
  have hr := HR.out
  rw [h1] at hr
  replace HR := Aside0.mk (show (.error f) = R from hr)
  clear hr h1
  obtain ⟨rfl, hb⟩ := hp
  have HR2 := Aside0.mk (show R = .error f from HR.out.symm)
  have HBB := Aside0.mk hb
  clear HR hb
  go_wp2_with fail
  exact ⟨rfl, by rw [HR2.out]; exact ⟨rfl, HBB.out⟩⟩
 | ok k1 =>
 rw [h1] at hp
 obtain ⟨rfl, hp1, hk1⟩ := hp
 have hr := HR.out
 rw [h1] at hr
 dsimp only at hr
 replace HR := Aside0.mk hr
 clear hr h1
 replace HK := Aside0.mk (KeepBut.trans HK.out hk1 (.inl rfl))
 replace HP := Aside0.mk hp1
 clear hp1 hk1
 go_wp2_with fail
 refine (number_calls HP.out HL.out).mono ?_
 intro e w2 hp
 unfold POut at hp
 cases h1 : numberR ws k1 with
 | error f =>
  rw [h1] at hp
  have hr := HR.out
  rw [h1] at hr
  replace HR := Aside0.mk (show (.error f) = R from hr)
  clear hr h1
  obtain ⟨rfl, hb⟩ := hp
  have HR2 := Aside0.mk (show R = .error f from HR.out.symm)
  have HBB := Aside0.mk hb
  clear HR hb
  go_wp2_with fail
  exact ⟨rfl, by rw [HR2.out]; exact ⟨rfl, HBB.out⟩⟩
 | ok n =>
 obtain ⟨n, kn⟩ := n
 rw [h1] at hp
 dsimp only at hp
 obtain ⟨un, rfl, rfl, hp1, hk1⟩ := hp
 have hr := HR.out
 rw [h1] at hr
 dsimp only at hr
 replace HR := Aside0.mk hr
 clear hr h1
 replace HK := Aside0.mk (KeepBut.trans HK.out hk1 (.inl rfl))
 replace HP := Aside0.mk hp1
 clear hp1 hk1
 go_wp2_with fail
 refine (want_lits HP.out [sqcS] (by decide) _ rfl 1 rfl).mono ?_
 intro e w3 hp
 unfold POut0 at hp
 try simp only [wantsR] at hp
 cases h1 : wantR ws sqcS kn with
 | error f =>
  rw [h1] at hp
  have hr := HR.out
  rw [h1] at hr
  replace HR := Aside0.mk (show (.error f) = R from hr)
  clear hr h1
  obtain ⟨rfl, hb⟩ := hp
  have HR2 := Aside0.mk (show R = .error f from HR.out.symm)
  have HBB := Aside0.mk hb
  clear HR hb
  go_wp2_with fail
  exact ⟨rfl, by rw [HR2.out]; exact ⟨rfl, HBB.out⟩⟩
 | ok k3 =>
 rw [h1] at hp
 obtain ⟨rfl, hp1, hk1⟩ := hp
 have hr := HR.out
 rw [h1] at hr
 dsimp only at hr
 replace HR := Aside0.mk hr
 clear hr h1
 replace HK := Aside0.mk (KeepBut.trans HK.out hk1 (.inl rfl))
 replace HP := Aside0.mk hp1
 clear hp1 hk1
 go_wp2_with fail
 go_ret
 rw [← HR.out]
 exact ⟨_, rfl, rfl, HP.out, HK.out⟩
theorem notS_L : notS.toList = [110, 111, 116] := by simp [notS]
theorem minS_L : minS.toList = [45] := by simp [minS]
theorem ifS_L : ifS.toList = [105, 102] := by simp [ifS]
theorem ofL {s : ByteArray} {l : List UInt8} (h : s.toList = l) : s = ⟨l.toArray⟩ := toList_inj (by simpa using h)
theorem PS.at1 (h : PS w0 w g ws k o) (hk : k < ws.length) : PS w0 (w.setCell ⟨g, 1, none⟩ (.int .i64 ((k : Int) + 1))) g ws (k + 1) o := by
 have := h.at_ (k + 1) hk
 rwa [show ((k + 1 : Nat) : Int) = (k : Int) + 1 from rfl] at this
theorem PS.grown {wf : World} {b : Nat} (h : PS w0 w g ws k o) (hg : w.grownBy wf (some b)) (hn : b ≠ g) (hb : w0.heap.size ≤ b) : PS w0 wf g ws k o :=
 ⟨IsS97.grown h.st hg (fun e => hn (by injection e with e; exact e.symm)), h.be.grown hg h.be.size (fun k hk => by cases hk; exact hb), h.le, h.few, h.wee⟩
theorem keep_grown {W wf : World} {b : Nat} (hk : KeepBut w W g none) (hg : W.grownBy wf (some b)) (hb : w.heap.size ≤ b) : KeepBut w wf g none := by
 refine ⟨Nat.le_trans hk.1 hg.size, fun i hi hn hr => ?_⟩
 rw [hg.block i (Nat.lt_of_lt_of_le hi hk.1) (fun e => by injection e with e; omega)]
 exact hk.2 i hi hn hr
theorem M_grownb {α : Type} {d : Kd α} {W wf : World} {b : Nat} {x : α} {cs : List Value} (hM : d.M W (b + 1) (fun _ => True) x cs) (hg : W.grownBy wf (some b)) : d.M wf (b + 1) (fun _ => True) x cs :=
 d.M_mono (fun _ _ => trivial) (Kd.M_grown (d.M_mono (fun k hk => hk.2.1) (d.M_bound hM)) hg (fun k hk e => by injection e with e; omega))
theorem R_grownb {α : Type} {d : Kd α} {e : Nat} {W wf : World} {b : Nat} {v : Value} {xs : List α} (hM : d.R e W (b + 1) (fun _ => True) v xs) (hg : W.grownBy wf (some b)) : d.R e wf (b + 1) (fun _ => True) v xs :=
 Kd.R_mono (Kd.R_grown (Kd.R_mono (Kd.R_bound hM) (fun k hk => hk.2.1)) hg (fun k hk e => by injection e with e; omega)) (fun _ _ => trivial)
theorem POut.fin {α : Type} {ret : World → α → Value → Prop} {W wf : World} {b : Nat} {x : α} {u : Value} {k' : Nat} (h : PS w0 W g ws k' o) (hk : KeepBut w W g none) (hg : W.grownBy wf (some b)) (hn : b ≠ g) (hb0 : w0.heap.size ≤ b) (hb : w.heap.size ≤ b) (hr : ret wf x u) : POut ret w0 w g ws o (.ok (x, k')) (.returned u) wf :=
 ⟨u, rfl, hr, h.grown hg hn hb0, keep_grown hk hg hb⟩
theorem five_grown (W : World) (b : Nat) (a1 a2 a3 a4 a5 : Value) : W.grownBy (five W b a1 a2 a3 a4 a5) (some b) := by
 have h : ∀ (V : World) (j : Nat) (u : Value), V.grownBy (V.setCell ⟨b, j, none⟩ u) (some b) := fun V j u => ⟨rfl, rfl, rfl, by simp [World.setCell], fun k hk hn => Below.heap_setCell V ⟨b, j, none⟩ u k (fun e => hn (by rw [e]))⟩
 exact ((((h W 0 a1).trans (h _ 1 a2)).trans (h _ 2 a3)).trans (h _ 3 a4)).trans (h _ 4 a5)
theorem M_expr_lit {W wf : World} {b : Nat} (op : Int) (name : ByteArray) (n : Int) (xs : List S38) {inner : List Value} (hr : Reps (fun x cs => kE.M W (b + 1) (fun _ => True) x cs) kE.sz xs inner) (hm : xs.length ≤ 9223372036854775807) (hb : b + 1 ≤ W.heap.size)
  (hg : (W.alloc (.cells inner.toArray 38)).grownBy wf (some b)) (m : Nat) (hm2 : m = xs.length) : kE.M wf b (fun _ => True) ⟨op, name, n, [], xs⟩ [.int .i64 op, .string name, .int .i64 n, .slice none 0 0, .slice (some ⟨W.heap.size, 0, none⟩) m m] := by
 subst hm2
 exact kE.M_lower (Nat.le_succ _) (k38_mkM wf (b + 1) _ ⟨op, name, n, [], xs⟩ (Kd.R_nil _ _ _ _ _) (R_grownb (R_lit_mk kE 38 W (b + 1) hb xs inner hr hm) hg))
theorem M_expr_flat (wf : World) (b : Nat) (op : Int) (name : ByteArray) (n : Int) : kE.M wf b (fun _ => True) ⟨op, name, n, [], []⟩ [.int .i64 op, .string name, .int .i64 n, .slice none 0 0, .slice none 0 0] :=
 k38_mkM wf b _ ⟨op, name, n, [], []⟩ (Kd.R_nil _ _ _ _ _) (Kd.R_nil _ _ _ _ _)
set_option maxHeartbeats 4000000 in
theorem inner_calls (ex : Rd S38) (hex : ∀ (W : World) (k' : Nat), PS w0 W g ws k' o → Calls Tryz.prog 153 #[.pointer (some ⟨g, 0, none⟩)] W (POut (retE W.heap.size) w0 W g ws o (ex k'))) (h : PS w0 w g ws k o) :
  Calls Tryz.prog 181 #[.pointer (some ⟨g, 0, none⟩)] w (POut (retE w.heap.size) w0 w g ws o (innerR ws ex k)) := by
 have HX := Aside0.mk hex
 have HU := Aside0.mk Tryz.underlying38
 have NE2 : Aside0 (w.heap.size ≠ g) := ⟨Nat.ne_of_gt h.lt⟩
 have LE2 : Aside0 (w0.heap.size ≤ w.heap.size) := ⟨h.be.size⟩
 clear hex
 have HP := Aside0.mk h
 have HK := Aside0.mk (KeepBut.refl w g none)
 obtain ⟨R, hR⟩ : ∃ R, innerR ws ex k = R := ⟨_, rfl⟩
 rw [hR]
 unfold innerR at hR
 have HR := Aside0.mk hR
 clear h hR
 go_enter Tryz.func181, Tryz.ntmps181
 go_wp2_with fail
 have B2 := Aside0.mk (blk_new w (.cells #[.int .i64 0, .string ⟨#[]⟩, .int .i64 0, .slice none 0 0, .slice none 0 0] 38 (0, 0)))
 replace HP := Aside0.mk (HP.out.alloc (.cells #[.int .i64 0, .string ⟨#[]⟩, .int .i64 0, .slice none 0 0, .slice none 0 0] 38 (0, 0)))
 replace HK := Aside0.mk (keep_alloc HK.out (.cells #[.int .i64 0, .string ⟨#[]⟩, .int .i64 0, .slice none 0 0, .slice none 0 0] 38 (0, 0)))
 refine (next_calls HP.out).mono ?_
 rintro e w1 ⟨rfl, hp1, hk1⟩
 replace B2 := Aside0.mk (KeepBut.blk hk1 B2.out NE2.out (by simp))
 replace HK := Aside0.mk (KeepBut.trans HK.out hk1 (.inl rfl))
 replace HP := Aside0.mk hp1
 clear hp1 hk1
 have NL := Aside0.mk (next_lt HP.out)
 generalize nextR ws k = s at HR NL ⊢
 cases c1 : (s.toList == [110, 111, 116]) with
 | true =>
  have hs : s = notS ∨ s = minS := Or.inl (ofL (eq_of_beq c1))
  have HLT := Aside0.mk (NL.out (by rcases hs with e | e <;> rw [e] <;> decide))
  have hr := HR.out
  rw [if_pos hs] at hr
  replace HR := Aside0.mk hr
  clear hr hs NL
  obtain ⟨x1, x2, y1, y2⟩ := HP.out.cells
  have hw := wrap_at HP.out
  go_wp2_with fail
  clear x1 x2 y1 y2 hw
  replace B2 := Aside0.mk (blk_far (p := ⟨g, 1, none⟩) B2.out NE2.out (.int .i64 ((k : Int) + 1)))
  replace HK := Aside0.mk (KeepBut.set_ HK.out 1 (.int .i64 ((k : Int) + 1)))
  replace HP := Aside0.mk (HP.out.at1 HLT.out)
  clear HLT
  have LWx := Aside0.mk (blk_lt B2.out)
  refine (HX.out _ (k + 1) HP.out).mono ?_
  intro e w2 hp
  unfold POut at hp
  cases h1 : ex (k + 1) with
  | error f =>
   rw [h1] at hp
   have hr := HR.out
   rw [h1] at hr
   replace HR := Aside0.mk (show (.error f) = R from hr)
   clear hr h1
   obtain ⟨rfl, hb⟩ := hp
   have HR2 := Aside0.mk (show R = .error f from HR.out.symm)
   have HBB := Aside0.mk hb
   clear HR hb
   go_wp2_with fail
   exact ⟨rfl, by rw [HR2.out]; exact ⟨rfl, HBB.out⟩⟩
  | ok x =>
  obtain ⟨x, kx⟩ := x
  rw [h1] at hp
  dsimp only at hp
  obtain ⟨ux, rfl, retx, hp1, hk1⟩ := hp
  have hr := HR.out
  rw [h1] at hr
  dsimp only at hr
  replace HR := Aside0.mk hr
  clear hr h1
  replace B2 := Aside0.mk (KeepBut.blk hk1 B2.out NE2.out (by simp))
  replace HK := Aside0.mk (KeepBut.trans HK.out hk1 (.inl rfl))
  replace HP := Aside0.mk hp1
  clear hp1 hk1
  obtain ⟨csx, rfl, hmx⟩ := retx
  have hnx := kE.M_lower (base' := w.heap.size + 1) LWx.out hmx
  obtain ⟨v3x, v4x, rfl, _, _⟩ := k38_openM hnx
  have HMx := Aside0.mk hnx
  clear hmx hnx LWx
  have LB := Aside0.mk (blk_lt B2.out)
  go_wp2_with ((with_reducible refine gate_store (t := 38) (p := 2) rfl ?_); refine store_whole rfl rfl 38 _ _ rfl w.heap.size _ 38 rfl (blk_alloc B2.out _) _ rfl rfl rfl (by simp [Value.oneCell']) ?_; intro wf hbf hgf; have HBF := Aside0.mk hbf; have HGF := Aside0.mk hgf; clear hbf hgf)
  refine bodyPost_ret (results_c1 rfl _ _ w.heap.size 38 _ (0, 0) _ rfl HBF.out HU.out rfl rfl) rfl ?_
  rw [← HR.out]
  exact POut.fin (HP.out.alloc _) (keep_alloc HK.out _) HGF.out NE2.out LE2.out (Nat.le_refl _) ⟨_, rfl, M_expr_lit 5 s 0 [x] ((Reps.none _ _).snoc HMx.out rfl) (by simp) LB.out HGF.out 1 rfl⟩
 | false =>
 cases c2 : (s.toList == [45]) with
 | true =>
  have hs : s = notS ∨ s = minS := Or.inr (ofL (eq_of_beq c2))
  have HLT := Aside0.mk (NL.out (by rcases hs with e | e <;> rw [e] <;> decide))
  have hr := HR.out
  rw [if_pos hs] at hr
  replace HR := Aside0.mk hr
  clear hr hs NL
  obtain ⟨x1, x2, y1, y2⟩ := HP.out.cells
  have hw := wrap_at HP.out
  go_wp2_with fail
  clear x1 x2 y1 y2 hw
  replace B2 := Aside0.mk (blk_far (p := ⟨g, 1, none⟩) B2.out NE2.out (.int .i64 ((k : Int) + 1)))
  replace HK := Aside0.mk (KeepBut.set_ HK.out 1 (.int .i64 ((k : Int) + 1)))
  replace HP := Aside0.mk (HP.out.at1 HLT.out)
  clear HLT
  have LWx := Aside0.mk (blk_lt B2.out)
  refine (HX.out _ (k + 1) HP.out).mono ?_
  intro e w2 hp
  unfold POut at hp
  cases h1 : ex (k + 1) with
  | error f =>
   rw [h1] at hp
   have hr := HR.out
   rw [h1] at hr
   replace HR := Aside0.mk (show (.error f) = R from hr)
   clear hr h1
   obtain ⟨rfl, hb⟩ := hp
   have HR2 := Aside0.mk (show R = .error f from HR.out.symm)
   have HBB := Aside0.mk hb
   clear HR hb
   go_wp2_with fail
   exact ⟨rfl, by rw [HR2.out]; exact ⟨rfl, HBB.out⟩⟩
  | ok x =>
  obtain ⟨x, kx⟩ := x
  rw [h1] at hp
  dsimp only at hp
  obtain ⟨ux, rfl, retx, hp1, hk1⟩ := hp
  have hr := HR.out
  rw [h1] at hr
  dsimp only at hr
  replace HR := Aside0.mk hr
  clear hr h1
  replace B2 := Aside0.mk (KeepBut.blk hk1 B2.out NE2.out (by simp))
  replace HK := Aside0.mk (KeepBut.trans HK.out hk1 (.inl rfl))
  replace HP := Aside0.mk hp1
  clear hp1 hk1
  obtain ⟨csx, rfl, hmx⟩ := retx
  have hnx := kE.M_lower (base' := w.heap.size + 1) LWx.out hmx
  obtain ⟨v3x, v4x, rfl, _, _⟩ := k38_openM hnx
  have HMx := Aside0.mk hnx
  clear hmx hnx LWx
  have LB := Aside0.mk (blk_lt B2.out)
  go_wp2_with ((with_reducible refine gate_store (t := 38) (p := 2) rfl ?_); refine store_whole rfl rfl 38 _ _ rfl w.heap.size _ 38 rfl (blk_alloc B2.out _) _ rfl rfl rfl (by simp [Value.oneCell']) ?_; intro wf hbf hgf; have HBF := Aside0.mk hbf; have HGF := Aside0.mk hgf; clear hbf hgf)
  refine bodyPost_ret (results_c1 rfl _ _ w.heap.size 38 _ (0, 0) _ rfl HBF.out HU.out rfl rfl) rfl ?_
  rw [← HR.out]
  exact POut.fin (HP.out.alloc _) (keep_alloc HK.out _) HGF.out NE2.out LE2.out (Nat.le_refl _) ⟨_, rfl, M_expr_lit 5 s 0 [x] ((Reps.none _ _).snoc HMx.out rfl) (by simp) LB.out HGF.out 1 rfl⟩
 | false =>
 have hn : ¬ (s = notS ∨ s = minS) := by
  rintro (e | e)
  ·rw [e, notS_L] at c1; cases c1
  ·rw [e, minS_L] at c2; cases c2
 cases c3 : (s.toList == [105, 102]) with
 | true =>
  have hs : s = ifS := ofL (eq_of_beq c3)
  have HLT := Aside0.mk (NL.out (by rw [hs]; decide))
  have hr := HR.out
  rw [if_neg hn, if_pos hs] at hr
  replace HR := Aside0.mk hr
  clear hr hs hn NL
  obtain ⟨x1, x2, y1, y2⟩ := HP.out.cells
  have hw := wrap_at HP.out
  go_wp2_with fail
  clear x1 x2 y1 y2 hw
  replace B2 := Aside0.mk (blk_far (p := ⟨g, 1, none⟩) B2.out NE2.out (.int .i64 ((k : Int) + 1)))
  replace HK := Aside0.mk (KeepBut.set_ HK.out 1 (.int .i64 ((k : Int) + 1)))
  replace HP := Aside0.mk (HP.out.at1 HLT.out)
  clear HLT
  have LWa := Aside0.mk (blk_lt B2.out)
  refine (HX.out _ (k + 1) HP.out).mono ?_
  intro e w2 hp
  unfold POut at hp
  cases h1 : ex (k + 1) with
  | error f =>
   rw [h1] at hp
   have hr := HR.out
   rw [h1] at hr
   replace HR := Aside0.mk (show (.error f) = R from hr)
   clear hr h1
   obtain ⟨rfl, hb⟩ := hp
   have HR2 := Aside0.mk (show R = .error f from HR.out.symm)
   have HBB := Aside0.mk hb
   clear HR hb
   go_wp2_with fail
   exact ⟨rfl, by rw [HR2.out]; exact ⟨rfl, HBB.out⟩⟩
  | ok a =>
  obtain ⟨a, ka⟩ := a
  rw [h1] at hp
  dsimp only at hp
  obtain ⟨ua, rfl, reta, hp1, hk1⟩ := hp
  have hr := HR.out
  rw [h1] at hr
  dsimp only at hr
  replace HR := Aside0.mk hr
  clear hr h1
  replace B2 := Aside0.mk (KeepBut.blk hk1 B2.out NE2.out (by simp))
  replace HK := Aside0.mk (KeepBut.trans HK.out hk1 (.inl rfl))
  replace HP := Aside0.mk hp1
  clear hp1 hk1
  obtain ⟨csa, rfl, hma⟩ := reta
  have hna := kE.M_lower (base' := w.heap.size + 1) LWa.out hma
  obtain ⟨v3a, v4a, rfl, _, _⟩ := k38_openM hna
  have HMa := Aside0.mk hna
  clear hma hna LWa
  go_wp2_with ((with_reducible refine gate_store (t := 38) (p := 4) rfl ?_); refine store_whole rfl rfl 38 _ _ rfl w2.heap.size _ 38 rfl (blk_new _ _) _ rfl rfl rfl (kE.K_one (kE.K_of_M HMa.out)) ?_; intro w_ hb2 hg2; have NEa := Aside0.mk (Nat.ne_of_gt HP.out.lt : w2.heap.size ≠ g); replace B2 := Aside0.mk (blk_as B2.out hg2); replace HMa := Aside0.mk (Kd.M_below HMa.out (below_as (Below.refl _ _) hg2)); replace HP := Aside0.mk (HP.out.as hg2); replace HK := Aside0.mk (KeepBut.trans HK.out (KeepBut.of_below (below_as (Below.refl _ _) hg2) g none) (.inl rfl)); have Ba := Aside0.mk hb2; clear hb2 hg2)
  refine (want_lits HP.out [thenS] (by decide) _ rfl 1 rfl).mono ?_
  intro e w3 hp
  unfold POut0 at hp
  try simp only [wantsR] at hp
  cases h1 : wantR ws thenS ka with
  | error f =>
   rw [h1] at hp
   have hr := HR.out
   rw [h1] at hr
   replace HR := Aside0.mk (show (.error f) = R from hr)
   clear hr h1
   obtain ⟨rfl, hb⟩ := hp
   have HR2 := Aside0.mk (show R = .error f from HR.out.symm)
   have HBB := Aside0.mk hb
   clear HR hb
   go_wp2_with fail
   exact ⟨rfl, by rw [HR2.out]; exact ⟨rfl, HBB.out⟩⟩
  | ok k2 =>
  rw [h1] at hp
  obtain ⟨rfl, hp1, hk1⟩ := hp
  have hr := HR.out
  rw [h1] at hr
  dsimp only at hr
  replace HR := Aside0.mk hr
  clear hr h1
  replace B2 := Aside0.mk (KeepBut.blk hk1 B2.out NE2.out (by simp))
  replace HMa := Aside0.mk (HP.out.keepM (by decide) HMa.out hk1)
  replace Ba := Aside0.mk (KeepBut.blk hk1 Ba.out NEa.out (by simp))
  replace HK := Aside0.mk (KeepBut.trans HK.out hk1 (.inl rfl))
  replace HP := Aside0.mk hp1
  clear hp1 hk1
  go_wp2_with fail
  have LWb := Aside0.mk (blk_lt B2.out)
  refine (HX.out _ (k2) HP.out).mono ?_
  intro e w4 hp
  unfold POut at hp
  cases h1 : ex (k2) with
  | error f =>
   rw [h1] at hp
   have hr := HR.out
   rw [h1] at hr
   replace HR := Aside0.mk (show (.error f) = R from hr)
   clear hr h1
   obtain ⟨rfl, hb⟩ := hp
   have HR2 := Aside0.mk (show R = .error f from HR.out.symm)
   have HBB := Aside0.mk hb
   clear HR hb
   go_wp2_with fail
   exact ⟨rfl, by rw [HR2.out]; exact ⟨rfl, HBB.out⟩⟩
  | ok b =>
  obtain ⟨b, kb⟩ := b
  rw [h1] at hp
  dsimp only at hp
  obtain ⟨ub, rfl, retb, hp1, hk1⟩ := hp
  have hr := HR.out
  rw [h1] at hr
  dsimp only at hr
  replace HR := Aside0.mk hr
  clear hr h1
  replace B2 := Aside0.mk (KeepBut.blk hk1 B2.out NE2.out (by simp))
  replace HMa := Aside0.mk (HP.out.keepM (by decide) HMa.out hk1)
  replace Ba := Aside0.mk (KeepBut.blk hk1 Ba.out NEa.out (by simp))
  replace HK := Aside0.mk (KeepBut.trans HK.out hk1 (.inl rfl))
  replace HP := Aside0.mk hp1
  clear hp1 hk1
  obtain ⟨csb, rfl, hmb⟩ := retb
  have hnb := kE.M_lower (base' := w.heap.size + 1) LWb.out hmb
  obtain ⟨v3b, v4b, rfl, _, _⟩ := k38_openM hnb
  have HMb := Aside0.mk hnb
  clear hmb hnb LWb
  go_wp2_with ((with_reducible refine gate_store (t := 38) (p := 5) rfl ?_); refine store_whole rfl rfl 38 _ _ rfl w4.heap.size _ 38 rfl (blk_new _ _) _ rfl rfl rfl (kE.K_one (kE.K_of_M HMb.out)) ?_; intro w_ hb2 hg2; have NEb := Aside0.mk (Nat.ne_of_gt HP.out.lt : w4.heap.size ≠ g); replace B2 := Aside0.mk (blk_as B2.out hg2); replace HMa := Aside0.mk (Kd.M_below HMa.out (below_as (Below.refl _ _) hg2)); replace Ba := Aside0.mk (blk_as Ba.out hg2); replace HMb := Aside0.mk (Kd.M_below HMb.out (below_as (Below.refl _ _) hg2)); replace HP := Aside0.mk (HP.out.as hg2); replace HK := Aside0.mk (KeepBut.trans HK.out (KeepBut.of_below (below_as (Below.refl _ _) hg2) g none) (.inl rfl)); have Bb := Aside0.mk hb2; clear hb2 hg2)
  refine (want_lits HP.out [elseS] (by decide) _ rfl 1 rfl).mono ?_
  intro e w5 hp
  unfold POut0 at hp
  try simp only [wantsR] at hp
  cases h1 : wantR ws elseS kb with
  | error f =>
   rw [h1] at hp
   have hr := HR.out
   rw [h1] at hr
   replace HR := Aside0.mk (show (.error f) = R from hr)
   clear hr h1
   obtain ⟨rfl, hb⟩ := hp
   have HR2 := Aside0.mk (show R = .error f from HR.out.symm)
   have HBB := Aside0.mk hb
   clear HR hb
   go_wp2_with fail
   exact ⟨rfl, by rw [HR2.out]; exact ⟨rfl, HBB.out⟩⟩
  | ok k4 =>
  rw [h1] at hp
  obtain ⟨rfl, hp1, hk1⟩ := hp
  have hr := HR.out
  rw [h1] at hr
  dsimp only at hr
  replace HR := Aside0.mk hr
  clear hr h1
  replace B2 := Aside0.mk (KeepBut.blk hk1 B2.out NE2.out (by simp))
  replace HMa := Aside0.mk (HP.out.keepM (by decide) HMa.out hk1)
  replace Ba := Aside0.mk (KeepBut.blk hk1 Ba.out NEa.out (by simp))
  replace HMb := Aside0.mk (HP.out.keepM (by decide) HMb.out hk1)
  replace Bb := Aside0.mk (KeepBut.blk hk1 Bb.out NEb.out (by simp))
  replace HK := Aside0.mk (KeepBut.trans HK.out hk1 (.inl rfl))
  replace HP := Aside0.mk hp1
  clear hp1 hk1
  go_upto_region 13 with fail
  have da_0 := (blk_cell Ba.out 0).trans rfl
  have da_1 := (blk_cell Ba.out 1).trans rfl
  have da_2 := (blk_cell Ba.out 2).trans rfl
  have da_3 := (blk_cell Ba.out 3).trans rfl
  have da_4 := (blk_cell Ba.out 4).trans rfl
  have db_0 := (blk_cell Bb.out 0).trans rfl
  have db_1 := (blk_cell Bb.out 1).trans rfl
  have db_2 := (blk_cell Bb.out 2).trans rfl
  have db_3 := (blk_cell Bb.out 3).trans rfl
  have db_4 := (blk_cell Bb.out 4).trans rfl
  have e2_ := Aside0.mk (blk_drew B2.out)
  go_region_with (go_at_call 153; go_loud (refine (HX.out _ (k4) HP.out.drew).mono ?_; intro e w6 hp; unfold POut at hp; rcases h1 : ex (k4) with f | c; (focus (rw [h1] at hp; have hr := HR.out; rw [h1] at hr; have HR1 := Aside0.mk (show (.error f) = R from hr); clear hr h1; obtain ⟨rfl, hb⟩ := hp; have HR2 := Aside0.mk (show R = .error f from HR1.out.symm); have HBB := Aside0.mk hb; clear HR1 hb; go_wp2_with fail; exact ⟨rfl, by rw [HR2.out]; exact ⟨rfl, HBB.out⟩⟩)); obtain ⟨c, kc⟩ := c; rw [h1] at hp; dsimp only at hp; obtain ⟨uc, rfl, retc, hp1, hk1⟩ := hp; have hr := HR.out; rw [h1] at hr; dsimp only at hr; have HR1 := Aside0.mk hr; clear hr h1; have LWc := Aside0.mk (blk_lt B2.out); obtain ⟨csc, rfl, hmc⟩ := retc; have hnc := kE.M_lower (base' := w.heap.size + 1) LWc.out hmc; obtain ⟨v3c, v4c, rfl, _, _⟩ := k38_openM hnc; have HMc := Aside0.mk hnc; clear hmc hnc LWc; have B2_ := Aside0.mk (KeepBut.blk hk1 (blk_drew B2.out) NE2.out (by simp)); have Ba_ := Aside0.mk (KeepBut.blk hk1 (blk_drew Ba.out) NEa.out (by simp)); have Bb_ := Aside0.mk (KeepBut.blk hk1 (blk_drew Bb.out) NEb.out (by simp)); have HMa_ := Aside0.mk (HP.out.drew.keepM (by decide) (Kd.M_below HMa.out (below_drew1 (Below.refl _ _))) hk1); have HMb_ := Aside0.mk (HP.out.drew.keepM (by decide) (Kd.M_below HMb.out (below_drew1 (Below.refl _ _))) hk1); have HK_ := Aside0.mk (KeepBut.trans (keep_drew HK.out) hk1 (.inl rfl)); have HP_ := Aside0.mk hp1; clear hp1 hk1; have ca_0 := (blk_cell Ba_.out 0).trans rfl; have ca_1 := (blk_cell Ba_.out 1).trans rfl; have ca_2 := (blk_cell Ba_.out 2).trans rfl; have ca_3 := (blk_cell Ba_.out 3).trans rfl; have ca_4 := (blk_cell Ba_.out 4).trans rfl; have cb_0 := (blk_cell Bb_.out 0).trans rfl; have cb_1 := (blk_cell Bb_.out 1).trans rfl; have cb_2 := (blk_cell Bb_.out 2).trans rfl; have cb_3 := (blk_cell Bb_.out 3).trans rfl; have cb_4 := (blk_cell Bb_.out 4).trans rfl; have f2_0 := fun (ob : Obj) => blk_frozen (blk_alloc B2_.out ob) 0; have f2_1 := fun (ob : Obj) => blk_frozen (blk_alloc B2_.out ob) 1; have f2_2 := fun (ob : Obj) => blk_frozen (blk_alloc B2_.out ob) 2; have f2_3 := fun (ob : Obj) => blk_frozen (blk_alloc B2_.out ob) 3; have f2_4 := fun (ob : Obj) => blk_frozen (blk_alloc B2_.out ob) 4; have g2_0 := fun (ob : Obj) => (blk_cell (blk_alloc B2_.out ob) 0).trans rfl; have g2_1 := fun (ob : Obj) => (blk_cell (blk_alloc B2_.out ob) 1).trans rfl; have g2_2 := fun (ob : Obj) => (blk_cell (blk_alloc B2_.out ob) 2).trans rfl; have g2_3 := fun (ob : Obj) => (blk_cell (blk_alloc B2_.out ob) 3).trans rfl; have g2_4 := fun (ob : Obj) => (blk_cell (blk_alloc B2_.out ob) 4).trans rfl))
  all_goals
   have LB := Aside0.mk (blk_lt B2_.out)
   have HBF := Aside0.mk (five_heap (blk_alloc B2_.out (.cells #[.int .i64 a.f0, .string a.f1, .int .i64 a.f2, v3a, v4a, .int .i64 b.f0, .string b.f1, .int .i64 b.f2, v3b, v4b, .int .i64 c.f0, .string c.f1, .int .i64 c.f2, v3c, v4c] 38 (0, 0))) (.int .i64 7) (.string ⟨#[]⟩) (.int .i64 0) (.slice none 0 0) (.slice (some ⟨w6.heap.size, 0, none⟩) 3 3))
   clear HR
   have HR := HR1
   go_wp2_with fail
   refine bodyPost_ret (results_c1 rfl _ _ w.heap.size 38 _ (0, 0) _ rfl HBF.out HU.out rfl rfl) rfl ?_
   rw [← HR.out]
   have hg5 := five_grown (w6.alloc (.cells #[.int .i64 a.f0, .string a.f1, .int .i64 a.f2, v3a, v4a, .int .i64 b.f0, .string b.f1, .int .i64 b.f2, v3b, v4b, .int .i64 c.f0, .string c.f1, .int .i64 c.f2, v3c, v4c] 38 (0, 0))) w.heap.size (.int .i64 7) (.string ⟨#[]⟩) (.int .i64 0) (.slice none 0 0) (.slice (some ⟨w6.heap.size, 0, none⟩) 3 3)
   exact POut.fin (HP_.out.alloc _) (keep_alloc HK_.out _) hg5 NE2.out LE2.out (Nat.le_refl _) ⟨_, rfl, M_expr_lit 7 ⟨#[]⟩ 0 [a, b, c] ((((Reps.none _ _).snoc HMa_.out rfl).snoc HMb_.out rfl).snoc HMc.out rfl) (by simp) LB.out hg5 3 rfl⟩
 | false =>
 have hs : ¬ s = ifS := fun e => by rw [e, ifS_L] at c3; cases c3
 have hr := HR.out
 rw [if_neg hn, if_neg hs] at hr
 replace HR := Aside0.mk hr
 clear hr hs hn NL
 go_wp2_with fail
 have LWa := Aside0.mk (blk_lt B2.out)
 refine (HX.out _ (k) HP.out).mono ?_
 intro e w2 hp
 unfold POut at hp
 cases h1 : ex (k) with
 | error f =>
  rw [h1] at hp
  have hr := HR.out
  rw [h1] at hr
  replace HR := Aside0.mk (show (.error f) = R from hr)
  clear hr h1
  obtain ⟨rfl, hb⟩ := hp
  have HR2 := Aside0.mk (show R = .error f from HR.out.symm)
  have HBB := Aside0.mk hb
  clear HR hb
  go_wp2_with fail
  exact ⟨rfl, by rw [HR2.out]; exact ⟨rfl, HBB.out⟩⟩
 | ok a =>
 obtain ⟨a, ka⟩ := a
 rw [h1] at hp
 dsimp only at hp
 obtain ⟨ua, rfl, reta, hp1, hk1⟩ := hp
 have hr := HR.out
 rw [h1] at hr
 dsimp only at hr
 replace HR := Aside0.mk hr
 clear hr h1
 replace B2 := Aside0.mk (KeepBut.blk hk1 B2.out NE2.out (by simp))
 replace HK := Aside0.mk (KeepBut.trans HK.out hk1 (.inl rfl))
 replace HP := Aside0.mk hp1
 clear hp1 hk1
 obtain ⟨csa, rfl, hma⟩ := reta
 have hna := kE.M_lower (base' := w.heap.size + 1) LWa.out hma
 obtain ⟨v3a, v4a, rfl, _, _⟩ := k38_openM hna
 have HMa := Aside0.mk hna
 clear hma hna LWa
 go_wp2_with ((with_reducible refine gate_store (t := 38) (p := 6) rfl ?_); refine store_whole rfl rfl 38 _ _ rfl w2.heap.size _ 38 rfl (blk_new _ _) _ rfl rfl rfl (kE.K_one (kE.K_of_M HMa.out)) ?_; intro w_ hb2 hg2; have NEa := Aside0.mk (Nat.ne_of_gt HP.out.lt : w2.heap.size ≠ g); replace B2 := Aside0.mk (blk_as B2.out hg2); replace HMa := Aside0.mk (Kd.M_below HMa.out (below_as (Below.refl _ _) hg2)); replace HP := Aside0.mk (HP.out.as hg2); replace HK := Aside0.mk (KeepBut.trans HK.out (KeepBut.of_below (below_as (Below.refl _ _) hg2) g none) (.inl rfl)); have Ba := Aside0.mk hb2; clear hb2 hg2)
 refine (next_calls HP.out).mono ?_
 rintro e w3 ⟨rfl, hp1, hk1⟩
 replace B2 := Aside0.mk (KeepBut.blk hk1 B2.out NE2.out (by simp))
 replace HMa := Aside0.mk (HP.out.keepM (by decide) HMa.out hk1)
 replace Ba := Aside0.mk (KeepBut.blk hk1 Ba.out NEa.out (by simp))
 replace HK := Aside0.mk (KeepBut.trans HK.out hk1 (.inl rfl))
 replace HP := Aside0.mk hp1
 clear hp1 hk1
 have NL := Aside0.mk (next_lt HP.out)
 generalize nextR ws ka = q at HR NL ⊢
 go_wp2_with fail
 refine (takes2_calls q w3).mono ?_
 rintro e w4 ⟨⟨ty1, ty2, rfl⟩, hb⟩
 have hk1 := KeepBut.of_below hb g none
 have hp1 := HP.out.below hb
 clear hb
 replace B2 := Aside0.mk (KeepBut.blk hk1 B2.out NE2.out (by simp))
 replace HMa := Aside0.mk (HP.out.keepM (by decide) HMa.out hk1)
 replace Ba := Aside0.mk (KeepBut.blk hk1 Ba.out NEa.out (by simp))
 replace HK := Aside0.mk (KeepBut.trans HK.out hk1 (.inl rfl))
 replace HP := Aside0.mk hp1
 clear hp1 hk1
 cases hq : inL opL q with
 | false =>
  have hr := HR.out
  rw [hq, if_neg Bool.false_ne_true] at hr
  have HR2 := Aside0.mk (show R = .error (3, ka + 1) from hr.symm)
  clear HR hr hq
  go_wp2_with fail
  refine (fail_calls HP.out 3).mono ?_
  rintro e w5 ⟨rfl, rfl⟩
  go_wp2_with fail
  exact ⟨rfl, by rw [HR2.out]; exact ⟨rfl, HP.out.be⟩⟩
 | true =>
 have hr := HR.out
 rw [hq, if_pos rfl] at hr
 replace HR := Aside0.mk hr
 have HLT := Aside0.mk (NL.out (by rintro rfl; revert hq; decide))
 clear hr hq NL
 obtain ⟨x1, x2, y1, y2⟩ := HP.out.cells
 have hw := wrap_at HP.out
 go_upto_region 20 with fail
 clear x1 x2 y1 y2 hw
 replace B2 := Aside0.mk (blk_far (p := ⟨g, 1, none⟩) B2.out NE2.out (.int .i64 ((ka : Int) + 1)))
 replace Ba := Aside0.mk (blk_far (p := ⟨g, 1, none⟩) Ba.out NEa.out (.int .i64 ((ka : Int) + 1)))
 replace HMa := Aside0.mk (HP.out.keepM (by decide) HMa.out (KeepBut.set_ (KeepBut.refl _ g none) 1 (.int .i64 ((ka : Int) + 1))))
 replace HK := Aside0.mk (KeepBut.set_ HK.out 1 (.int .i64 ((ka : Int) + 1)))
 replace HP := Aside0.mk (HP.out.at1 HLT.out)
 clear HLT
 have da_0 := (blk_cell Ba.out 0).trans rfl
 have da_1 := (blk_cell Ba.out 1).trans rfl
 have da_2 := (blk_cell Ba.out 2).trans rfl
 have da_3 := (blk_cell Ba.out 3).trans rfl
 have da_4 := (blk_cell Ba.out 4).trans rfl
 have e2_ := Aside0.mk (blk_drew B2.out)
 go_region_with (go_at_call 153; go_loud (refine (HX.out _ (ka + 1) HP.out.drew).mono ?_; intro e w6 hp; unfold POut at hp; rcases h1 : ex (ka + 1) with f | c; (focus (rw [h1] at hp; have hr := HR.out; rw [h1] at hr; have HR1 := Aside0.mk (show (.error f) = R from hr); clear hr h1; obtain ⟨rfl, hb⟩ := hp; have HR2 := Aside0.mk (show R = .error f from HR1.out.symm); have HBB := Aside0.mk hb; clear HR1 hb; go_wp2_with fail; exact ⟨rfl, by rw [HR2.out]; exact ⟨rfl, HBB.out⟩⟩)); obtain ⟨c, kc⟩ := c; rw [h1] at hp; dsimp only at hp; obtain ⟨uc, rfl, retc, hp1, hk1⟩ := hp; have hr := HR.out; rw [h1] at hr; dsimp only at hr; have HR1 := Aside0.mk hr; clear hr h1; have LWc := Aside0.mk (blk_lt B2.out); obtain ⟨csc, rfl, hmc⟩ := retc; have hnc := kE.M_lower (base' := w.heap.size + 1) LWc.out hmc; obtain ⟨v3c, v4c, rfl, _, _⟩ := k38_openM hnc; have HMc := Aside0.mk hnc; clear hmc hnc LWc; have B2_ := Aside0.mk (KeepBut.blk hk1 (blk_drew B2.out) NE2.out (by simp)); have Ba_ := Aside0.mk (KeepBut.blk hk1 (blk_drew Ba.out) NEa.out (by simp)); have HMa_ := Aside0.mk (HP.out.drew.keepM (by decide) (Kd.M_below HMa.out (below_drew1 (Below.refl _ _))) hk1); have HK_ := Aside0.mk (KeepBut.trans (keep_drew HK.out) hk1 (.inl rfl)); have HP_ := Aside0.mk hp1; clear hp1 hk1; have ca_0 := (blk_cell Ba_.out 0).trans rfl; have ca_1 := (blk_cell Ba_.out 1).trans rfl; have ca_2 := (blk_cell Ba_.out 2).trans rfl; have ca_3 := (blk_cell Ba_.out 3).trans rfl; have ca_4 := (blk_cell Ba_.out 4).trans rfl; have f2_0 := fun (ob : Obj) => blk_frozen (blk_alloc B2_.out ob) 0; have f2_1 := fun (ob : Obj) => blk_frozen (blk_alloc B2_.out ob) 1; have f2_2 := fun (ob : Obj) => blk_frozen (blk_alloc B2_.out ob) 2; have f2_3 := fun (ob : Obj) => blk_frozen (blk_alloc B2_.out ob) 3; have f2_4 := fun (ob : Obj) => blk_frozen (blk_alloc B2_.out ob) 4; have g2_0 := fun (ob : Obj) => (blk_cell (blk_alloc B2_.out ob) 0).trans rfl; have g2_1 := fun (ob : Obj) => (blk_cell (blk_alloc B2_.out ob) 1).trans rfl; have g2_2 := fun (ob : Obj) => (blk_cell (blk_alloc B2_.out ob) 2).trans rfl; have g2_3 := fun (ob : Obj) => (blk_cell (blk_alloc B2_.out ob) 3).trans rfl; have g2_4 := fun (ob : Obj) => (blk_cell (blk_alloc B2_.out ob) 4).trans rfl))
 all_goals
  have LB := Aside0.mk (blk_lt B2_.out)
  have HBF := Aside0.mk (five_heap (blk_alloc B2_.out (.cells #[.int .i64 a.f0, .string a.f1, .int .i64 a.f2, v3a, v4a, .int .i64 c.f0, .string c.f1, .int .i64 c.f2, v3c, v4c] 38 (0, 0))) (.int .i64 6) (.string q) (.int .i64 0) (.slice none 0 0) (.slice (some ⟨w6.heap.size, 0, none⟩) 2 2))
  clear HR
  have HR := HR1
  go_wp2_with fail
  refine bodyPost_ret (results_c1 rfl _ _ w.heap.size 38 _ (0, 0) _ rfl HBF.out HU.out rfl rfl) rfl ?_
  rw [← HR.out]
  have hg5 := five_grown (w6.alloc (.cells #[.int .i64 a.f0, .string a.f1, .int .i64 a.f2, v3a, v4a, .int .i64 c.f0, .string c.f1, .int .i64 c.f2, v3c, v4c] 38 (0, 0))) w.heap.size (.int .i64 6) (.string q) (.int .i64 0) (.slice none 0 0) (.slice (some ⟨w6.heap.size, 0, none⟩) 2 2)
  exact POut.fin (HP_.out.alloc _) (keep_alloc HK_.out _) hg5 NE2.out LE2.out (Nat.le_refl _) ⟨_, rfl, M_expr_lit 6 q 0 [a, c] (((Reps.none _ _).snoc HMa_.out rfl).snoc HMc.out rfl) (by simp) LB.out hg5 2 rfl⟩
end
end Go.Proofs.YticndoihkfbpoaaGreatDoor
