/- Package reread: till, list. -/
import Derived.Test.YticndoihkfbpoaaGreatDoorUe
import Derived.Test.YticndoihkfbpoaaGreatDoorUm
namespace Go.Proofs.YticndoihkfbpoaaGreatDoor
open Go Go.RowKit Go.Lib Go.Proofs.YticndoihkfbpoaaGreatDoorW.PrintWords Go.Proofs.YticndoihkfbpoaaGreatDoor.PScope
set_option maxRecDepth 100000
set_option linter.unusedSimpArgs false
set_option linter.unusedVariables false
section
variable {w0 w : World} {g : Nat} {ws : List ByteArray} {k : Nat} {o : Int}
def TOut {σ : Type} (Inv : World → σ → Nat → Prop) (w0 : World) (g : Nat) (ws : List ByteArray) (o : Int) (r : Except Flt (σ × Nat)) (e : Ending) (w' : World) : Prop :=
 match r with
 | .error f => e = fltE f ∧ Below w0.heap.size w0 w'
 | .ok x => e = .returned (.tuple #[]) ∧ PS w0 w' g ws x.2 o ∧ Inv w' x.1 x.2
theorem ketS_L : ketS.toList = [125] := by simp [ketS]
set_option maxHeartbeats 2000000 in
theorem till_calls {σ : Type} (rd : σ → Rd σ) (hfwd : ∀ s, Fwd (rd s)) (n : Nat) (a b : Value) (eg : ∀ args w, (callFunc n args).run Tryz.prog w = .ok (.enter n args) w) (Inv : World → σ → Nat → Prop)
  (hst : ∀ (W W1 : World) (s : σ) (k : Nat), PS w0 W g ws k o → Inv W s k → KeepBut W W1 g none → Inv W1 s k) (hmon : ∀ (W : World) (s : σ) (k k' : Nat), k ≤ k' → Inv W s k → Inv W s k')
  (hF : ∀ (W : World) (s : σ) (k : Nat), PS w0 W g ws k o → Inv W s k → Calls Tryz.prog n #[a, b] W (TOut Inv w0 g ws o (rd s k)))
  (h : PS w0 w g ws k o) (s : σ) (hI : Inv w s k) :
  Calls Tryz.prog 80 #[.pointer (some ⟨g, 0, none⟩), .func (.func n) #[] #[a, b]] w (TOut Inv w0 g ws o (tillR ws rd s k)) := by
 have HP := Aside0.mk h
 have HI := Aside0.mk hI
 have HF := Aside0.mk hF
 have HS := Aside0.mk hst
 have HMN := Aside0.mk hmon
 have HW := Aside0.mk hfwd
 obtain ⟨R, hR⟩ : ∃ R, tillR ws rd s k = R := ⟨_, rfl⟩
 rw [hR]
 unfold tillR at hR
 have HR := Aside0.mk hR
 clear h hR hI hF hst hfwd hmon
 go_enter Tryz.func80, Tryz.ntmps80
 go_wp2_with fail
 refine (want_lits HP.out [braS] (by decide) _ rfl 1 rfl).mono ?_
 intro e w1 hp
 unfold POut0 at hp
 try simp only [wantsR] at hp
 cases h1 : wantR ws braS k with
 | error f =>
  rw [h1] at hp
  have hr := HR.out
  rw [h1] at hr
  replace HR := Aside0.mk (show (.error f) = R from hr)
  clear hr h1
  obtain ⟨rfl, hb⟩ := hp
  have HR2 := Aside0.mk (show R = .error f from HR.out.symm)
  have HBB := Aside0.mk hb
  clear HR hb
  go_wp2_with fail
  exact ⟨rfl, by rw [HR2.out]; exact ⟨rfl, HBB.out⟩⟩
 | ok k1 =>
 rw [h1] at hp
 obtain ⟨rfl, hp1, hk1⟩ := hp
 have hr := HR.out
 rw [h1] at hr
 dsimp only at hr
 replace HR := Aside0.mk hr
 have hk1k := wantR_fwd h1
 clear hr h1
 replace HI := Aside0.mk (HMN.out _ _ k k1 (by omega) (HS.out _ _ _ _ HP.out HI.out hk1))
 replace HP := Aside0.mk hp1
 clear hp1 hk1
 clear hk1k
 go_wp2_with fail
 go_loopg [] (ws.length + 1) (fun gg wr => ∃ (m kp : Nat) (s' : σ), m ≤ gg ∧ ws.length + 1 ≤ m + kp ∧ Aside0 (PS w0 wr g ws kp o) ∧ Aside0 (Inv wr s' kp) ∧ Aside0 (tillB ws rd m kp s' = R))
 case atStart => exact ⟨ws.length + 1, k1, s, Nat.le_refl _, by omega, HP, HI, HR⟩
 case round =>
  clear HP HI HR
  obtain ⟨m, kp, s', hm, hmk, HP, HI, HR⟩ := hrel
  have hle := HP.out.le
  obtain ⟨m, rfl⟩ : ∃ m', m = m' + 1 := ⟨m - 1, by omega⟩
  go_wp2_with fail
  refine (next_calls HP.out).mono ?_
  rintro e w2 ⟨rfl, hp1, hk1⟩
  replace HI := Aside0.mk (HS.out _ _ _ _ HP.out HI.out hk1)
  replace HP := Aside0.mk hp1
  clear hp1 hk1
  have hr := HR.out
  unfold tillB at hr
  have HNL := Aside0.mk (next_lt HP.out)
  generalize hgn : nextR ws kp = q at hr HNL ⊢
  have HGN := Aside0.mk hgn
  clear hgn
  cases hc : (q.toList == [125]) with
  | true =>
   have hq : q = ketS := ofL (eq_of_beq hc)
   rw [if_pos hq] at hr
   have hlt := HNL.out (by rw [hq]; decide)
   have hwt : wantR ws ketS kp = .ok (kp + 1) := by
    unfold wantR takesR
    have := HGN.out
    unfold nextR at this
    rw [decide_eq_true hlt, this, decide_eq_true hq]; rfl
   replace HR := Aside0.mk hr
   have HWT := Aside0.mk hwt
   clear hr hq hlt hwt HNL HGN
   go_wp2_with fail
   refine (want_lits HP.out [ketS] (by decide) _ rfl 1 rfl).mono ?_
   intro e w3 hp
   unfold POut0 at hp
   simp only [wantsR] at hp
   rw [HWT.out] at hp
   obtain ⟨rfl, hp1, hk1⟩ := hp
   replace HI := Aside0.mk (HMN.out _ _ kp (kp + 1) (by omega) (HS.out _ _ _ _ HP.out HI.out hk1))
   replace HP := Aside0.mk hp1
   clear hp1 hk1
   go_wp2_with fail
   go_end0
   rw [← HR.out]
   exact ⟨rfl, HP.out, HI.out⟩
  | false =>
  have hq : ¬ q = ketS := fun e => by rw [e, ketS_L] at hc; cases hc
  rw [if_neg hq] at hr
  replace HR := Aside0.mk hr
  clear hr hq HNL HGN
  go_wp2_with fail
  refine (HF.out _ s' kp HP.out HI.out).mono ?_
  intro e w3 hp
  unfold TOut at hp
  cases h1 : rd s' kp with
  | error f =>
   rw [h1] at hp
   have hr := HR.out
   rw [h1] at hr
   replace HR := Aside0.mk (show (.error f) = R from hr)
   clear hr h1
   obtain ⟨rfl, hb⟩ := hp
   have HR2 := Aside0.mk (show R = .error f from HR.out.symm)
   have HBB := Aside0.mk hb
   clear HR hb
   go_wp2_with fail
   exact ⟨rfl, by rw [HR2.out]; exact ⟨rfl, HBB.out⟩⟩
  | ok x =>
  obtain ⟨s2, k2⟩ := x
  have HLT := Aside0.mk (HW.out _ _ _ _ h1)
  rw [h1] at hp
  dsimp only at hp
  obtain ⟨rfl, hp1, hi1⟩ := hp
  have hr := HR.out
  rw [h1] at hr
  dsimp only at hr
  replace HR := Aside0.mk hr
  replace HP := Aside0.mk hp1
  replace HI := Aside0.mk hi1
  clear hr h1 hp1 hi1
  go_wp2_with fail
  go_roundg m
  case measure => omega
  case rel => exact ⟨m, k2, s2, Nat.le_refl _, by have := HLT.out; omega, HP, HI, HR⟩
theorem PS.grown_own {wf : World} {v : Value} (h : PS w0 w g ws k o) (hg : w.grownBy wf v.ownBlock) (hn : v.ownBlock ≠ some g) (hb : ∀ k, v.ownBlock = some k → w0.heap.size ≤ k) : PS w0 wf g ws k o :=
 ⟨IsS97.grown h.st hg (fun e => hn e.symm), h.be.grown hg h.be.size hb, h.le, h.few, h.wee⟩
theorem keep_grown_own {W wf : World} {v : Value} (hk : KeepBut w W g none) (hg : W.grownBy wf v.ownBlock) (hb : ∀ k, v.ownBlock = some k → w.heap.size ≤ k) : KeepBut w wf g none := by
 refine ⟨Nat.le_trans hk.1 hg.size, fun i hi hn hr => ?_⟩
 rw [hg.block i (Nat.lt_of_lt_of_le hi hk.1) (fun e => by have := hb i e.symm; omega)]
 exact hk.2 i hi hn hr
theorem R_bound_lt {α : Type} {d : Kd α} {e base : Nat} {ok : Nat → Prop} {v : Value} {xs : List α} (h : d.R e w base ok v xs) : ∀ k, v.ownBlock = some k → k < w.heap.size := by
 obtain ⟨_, _, ho, _⟩ := h
 exact own_lt ho
theorem M_base {α : Type} {d : Kd α} {W : World} {b b' : Nat} {x : α} {cs : List Value} (h : d.M W b (fun _ => True) x cs) (hb : b' ≤ W.heap.size) (hbb : b' ≤ b) : d.M W b' (fun k => b ≤ k) x cs :=
 d.M_lower hbb (d.M_mono (fun k hk => hk.2.1) (d.M_bound h))
abbrev retLS (b : Nat) : World → List ByteArray → Value → Prop := fun w' x u => (Kd.string).R 9 w' b (fun _ => True) u x
theorem infoS : (Tryz.prog.info? 9).map (fun i => (i.zero, i.size, i.bytes)) = some (some (.string ⟨#[]⟩), 1, 16) := by kernel_rfl
set_option maxHeartbeats 4000000 in
theorem listS_calls (h : PS w0 w g ws k o) :
  Calls Tryz.prog 77 #[.pointer (some ⟨g, 0, none⟩), .func (.func 78) #[.pointer (some ⟨g, 0, none⟩)] #[]] w (POut (retLS w.heap.size) w0 w g ws o (listR ws (nameR ws) k)) := by
 have HU := Aside0.mk Tryz.underlying31
 have HLE := Aside0.mk h.be.size
 have HFW := Aside0.mk (nameR_fwd : Fwd (nameR ws))
 have HP := Aside0.mk h
 have HK := Aside0.mk (KeepBut.refl w g none)
 obtain ⟨R, hR⟩ : ∃ R, listR ws (nameR ws) k = R := ⟨_, rfl⟩
 rw [hR]
 unfold listR at hR
 have HR := Aside0.mk hR
 clear h hR
 go_enter Tryz.func77, Tryz.ntmps77
 go_wp2_with fail
 refine (want_lits HP.out [opnS] (by decide) _ rfl 1 rfl).mono ?_
 intro e w1 hp
 unfold POut0 at hp
 try simp only [wantsR] at hp
 cases h1 : wantR ws opnS k with
 | error f =>
  rw [h1] at hp
  have hr := HR.out
  rw [h1] at hr
  replace HR := Aside0.mk (show (.error f) = R from hr)
  clear hr h1
  obtain ⟨rfl, hb⟩ := hp
  have HR2 := Aside0.mk (show R = .error f from HR.out.symm)
  have HBB := Aside0.mk hb
  clear HR hb
  go_wp2_with fail
  exact ⟨rfl, by rw [HR2.out]; exact ⟨rfl, HBB.out⟩⟩
 | ok k1 =>
 rw [h1] at hp
 obtain ⟨rfl, hp1, hk1⟩ := hp
 have hr := HR.out
 rw [h1] at hr
 dsimp only at hr
 replace HR := Aside0.mk hr
 clear hr h1
 replace HK := Aside0.mk (KeepBut.trans HK.out hk1 (.inl rfl))
 replace HP := Aside0.mk hp1
 clear hp1 hk1
 go_wp2_with fail
 refine (takes_calls HP.out clsS).mono ?_
 rintro e w2 ⟨rfl, hp1, hk1⟩
 replace HK := Aside0.mk (KeepBut.trans HK.out hk1 (.inl rfl))
 replace HP := Aside0.mk hp1
 clear hp1 hk1
 cases ht : takesR ws clsS k1 with
 | true =>
  have hr := HR.out
  rw [ht, if_pos rfl] at hr
  replace HR := Aside0.mk hr
  have hp := HP.out
  rw [ht, if_pos rfl] at hp
  replace HP := Aside0.mk hp
  clear hr hp ht
  go_wp2_with fail
  go_ret
  rw [← HR.out]
  exact ⟨_, rfl, Kd.R_nil _ _ _ _ _, HP.out, HK.out⟩
 | false =>
 have hr := HR.out
 rw [ht, if_neg Bool.false_ne_true] at hr
 replace HR := Aside0.mk hr
 have hp := HP.out
 rw [ht, if_neg Bool.false_ne_true] at hp
 replace HP := Aside0.mk hp
 clear hr hp ht
 go_wp2_with fail
 have HSZx := Aside0.mk (keep_size HK.out)
 refine (name_calls HP.out).mono ?_
 intro e w3 hp
 unfold POut at hp
 cases h1 : (nameR ws) (k1) with
 | error f =>
  rw [h1] at hp
  have hr := HR.out
  rw [h1] at hr
  replace HR := Aside0.mk (show (.error f) = R from hr)
  clear hr h1
  obtain ⟨rfl, hb⟩ := hp
  have HR2 := Aside0.mk (show R = .error f from HR.out.symm)
  have HBB := Aside0.mk hb
  clear HR hb
  go_wp2_with fail
  exact ⟨rfl, by rw [HR2.out]; exact ⟨rfl, HBB.out⟩⟩
 | ok x =>
 obtain ⟨x, kx⟩ := x
 have HLTx := Aside0.mk (HFW.out _ _ _ h1)
 rw [h1] at hp
 dsimp only at hp
 obtain ⟨ux, rfl, retx, hp1, hk1⟩ := hp
 have hr := HR.out
 rw [h1] at hr
 dsimp only at hr
 replace HR := Aside0.mk hr
 clear hr h1
 replace HK := Aside0.mk (KeepBut.trans HK.out hk1 (.inl rfl))
 replace HP := Aside0.mk hp1
 clear hp1 hk1
 obtain rfl := retx
 have HRW := Aside0.mk (R_lit_mk (Kd.string) 9 w3 w.heap.size (keep_size HK.out) [x] [.string x] ((Reps.none _ _).snoc (show (Kd.string).M _ _ _ x [.string x] from rfl) rfl) (by simp))
 go_wp2_with fail
 replace HP := Aside0.mk (HP.out.alloc (.cells #[.string x] 9 (0, 0)))
 replace HK := Aside0.mk (keep_alloc HK.out (.cells #[.string x] 9 (0, 0)))
 have HLX := Aside0.mk (show 1 ≤ kx by have := HLTx.out; omega)
 skip
 go_loopg [5] (ws.length + 1) (fun gg s_ wr => ∃ (m kp : Nat) (l : List ByteArray) (v : Value), m ≤ gg ∧ ws.length + 1 ≤ m + kp ∧ l.length ≤ kp ∧ s_ = v ∧ Aside0 (PS w0 wr g ws kp o) ∧ Aside0 (KeepBut w wr g none) ∧ Aside0 ((Kd.string).R 9 wr w.heap.size (fun _ => True) v l) ∧ Aside0 (manyR ws (nameR ws) m kp l = R))
 case atStart => exact ⟨ws.length + 1, kx, [x], _, Nat.le_refl _, by omega, by have := HLX.out; simpa using this, rfl, HP, HK, HRW, HR⟩
 case round =>
  clear HP HK HRW HR HLX HLTx
  obtain ⟨m, kp, l, v, hm, hmk, hll, rfl, HP, HK, HRW, HR⟩ := hrel
  have hle := HP.out.le
  have hfew := HP.out.few
  obtain ⟨m, rfl⟩ : ∃ m', m = m' + 1 := ⟨m - 1, by omega⟩
  obtain ⟨A5, c5, rfl⟩ := Kd.R_slice HRW.out
  go_wp2_with fail
  refine (takes_calls HP.out comS).mono ?_
  rintro e w4 ⟨rfl, hp1, hk1⟩
  replace HRW := Aside0.mk (HP.out.keepR (by decide) HRW.out hk1)
  replace HK := Aside0.mk (KeepBut.trans HK.out hk1 (.inl rfl))
  replace HP := Aside0.mk hp1
  clear hp1 hk1
  have hr := HR.out
  unfold manyR at hr
  have hp := HP.out
  cases ht : takesR ws comS kp with
  | true =>
   rw [ht, if_pos rfl] at hr hp
   replace HR := Aside0.mk hr
   replace HP := Aside0.mk hp
   clear hr hp ht
   go_wp2_with fail
   have HB4 := Aside0.mk (R_bound_lt HRW.out)
   have HSZy := Aside0.mk (keep_size HK.out)
   refine (name_calls HP.out).mono ?_
   intro e w5 hp
   unfold POut at hp
   cases h1 : (nameR ws) (kp + 1) with
   | error f =>
    rw [h1] at hp
    have hr := HR.out
    rw [h1] at hr
    replace HR := Aside0.mk (show (.error f) = R from hr)
    clear hr h1
    obtain ⟨rfl, hb⟩ := hp
    have HR2 := Aside0.mk (show R = .error f from HR.out.symm)
    have HBB := Aside0.mk hb
    clear HR hb
    go_wp2_with fail
    exact ⟨rfl, by rw [HR2.out]; exact ⟨rfl, HBB.out⟩⟩
   | ok y =>
   obtain ⟨y, ky⟩ := y
   have HLTy := Aside0.mk (HFW.out _ _ _ h1)
   rw [h1] at hp
   dsimp only at hp
   obtain ⟨uy, rfl, rety, hp1, hk1⟩ := hp
   have hr := HR.out
   rw [h1] at hr
   dsimp only at hr
   replace HR := Aside0.mk hr
   clear hr h1
   replace HRW := Aside0.mk (HP.out.keepR (by decide) HRW.out hk1)
   replace HK := Aside0.mk (KeepBut.trans HK.out hk1 (.inl rfl))
   replace HP := Aside0.mk hp1
   clear hp1 hk1
   obtain rfl := rety
   go_wp2_with (at_builtin; refine Kd.R_append (Kd.string) (w0 := w5) w.heap.size rfl (.tmp 16) (.tmp 19) 31 9 (.string ⟨#[]⟩) 16 rfl HU.out infoS rfl (by decide) (by omega) (.slice A5 l.length c5) l y [.string y] (fun _ => True) (fun _ => False) rfl rfl (show (Kd.string).M _ _ _ y [.string y] from rfl) (fun k hk => hk.elim) (fun _ _ => trivial) HRW.out (Below.refl _ _) (keep_size HK.out) (by omega) ?_; intro v1 w6 hr6 hb6 hg6 hat6; have HRW6 := Aside0.mk hr6; have HG6 := Aside0.mk hg6; clear hr6 hb6 hg6 hat6)
   have hge : ∀ k, (Value.slice A5 l.length c5).ownBlock = some k → w.heap.size ≤ k := by
    obtain ⟨_, _, ho, _⟩ := HRW.out
    exact own_base ho
   have hng : (Value.slice A5 l.length c5).ownBlock ≠ some g := by
    obtain ⟨_, _, hb, _⟩ := HP.out.st
    have := Kd.R_ne HRW.out hb (by decide)
    exact fun e => this e.symm
   have HP6 := Aside0.mk ((HP.out).grown_own HG6.out hng (fun k hk => Nat.le_trans HLE.out (hge k hk)))
   have HK6 := Aside0.mk (keep_grown_own HK.out HG6.out hge)
   go_roundg m
   case measure => omega
   case rel => exact ⟨m, ky, l ++ [y], v1, Nat.le_refl _, by have := HLTy.out; omega, by have := HLTy.out; simp; omega, rfl, HP6, HK6, HRW6, HR⟩
  | false =>
  rw [ht, if_neg Bool.false_ne_true] at hr hp
  replace HR := Aside0.mk hr
  replace HP := Aside0.mk hp
  clear hr hp ht
  go_wp2_with fail
  refine (want_lits HP.out [clsS] (by decide) _ rfl 1 rfl).mono ?_
  intro e w5 hp
  unfold POut0 at hp
  try simp only [wantsR] at hp
  cases h1 : wantR ws clsS kp with
  | error f =>
   rw [h1] at hp
   have hr := HR.out
   rw [h1] at hr
   replace HR := Aside0.mk (show (.error f) = R from hr)
   clear hr h1
   obtain ⟨rfl, hb⟩ := hp
   have HR2 := Aside0.mk (show R = .error f from HR.out.symm)
   have HBB := Aside0.mk hb
   clear HR hb
   go_wp2_with fail
   exact ⟨rfl, by rw [HR2.out]; exact ⟨rfl, HBB.out⟩⟩
  | ok k5 =>
  rw [h1] at hp
  obtain ⟨rfl, hp1, hk1⟩ := hp
  have hr := HR.out
  rw [h1] at hr
  dsimp only at hr
  replace HR := Aside0.mk hr
  clear hr h1
  replace HRW := Aside0.mk (HP.out.keepR (by decide) HRW.out hk1)
  replace HK := Aside0.mk (KeepBut.trans HK.out hk1 (.inl rfl))
  replace HP := Aside0.mk hp1
  clear hp1 hk1
  go_wp2_with fail
  go_ret
  rw [← HR.out]
  exact ⟨_, rfl, HRW.out, HP.out, HK.out⟩
abbrev retLE (b : Nat) : World → List S38 → Value → Prop := fun w' x u => (kE).R 38 w' b (fun _ => True) u x
theorem infoE : (Tryz.prog.info? 38).map (fun i => (i.zero, i.size, i.bytes)) = some (some (.agg #[.int .i64 0, .string ⟨#[]⟩, .int .i64 0, .slice none 0 0, .slice none 0 0]), 5, 80) := by kernel_rfl
set_option maxHeartbeats 4000000 in
theorem listE_calls (ex : Rd S38) (hfw : Fwd ex) (hex : ∀ (W : World) (k' : Nat), PS w0 W g ws k' o → Calls Tryz.prog 153 #[.pointer (some ⟨g, 0, none⟩)] W (POut (retE W.heap.size) w0 W g ws o (ex k'))) (h : PS w0 w g ws k o) :
  Calls Tryz.prog 155 #[.pointer (some ⟨g, 0, none⟩), .func (.func 153) #[.pointer (some ⟨g, 0, none⟩)] #[]] w (POut (retLE w.heap.size) w0 w g ws o (listR ws ex k)) := by
 have HX := Aside0.mk hex
 have HU := Aside0.mk Tryz.underlying36
 have HLE := Aside0.mk h.be.size
 have HFW := Aside0.mk (hfw : Fwd ex)
 clear hex hfw
 have HP := Aside0.mk h
 have HK := Aside0.mk (KeepBut.refl w g none)
 obtain ⟨R, hR⟩ : ∃ R, listR ws ex k = R := ⟨_, rfl⟩
 rw [hR]
 unfold listR at hR
 have HR := Aside0.mk hR
 clear h hR
 go_enter Tryz.func155, Tryz.ntmps155
 go_wp2_with fail
 refine (want_lits HP.out [opnS] (by decide) _ rfl 1 rfl).mono ?_
 intro e w1 hp
 unfold POut0 at hp
 try simp only [wantsR] at hp
 cases h1 : wantR ws opnS k with
 | error f =>
  rw [h1] at hp
  have hr := HR.out
  rw [h1] at hr
  replace HR := Aside0.mk (show (.error f) = R from hr)
  clear hr h1
  obtain ⟨rfl, hb⟩ := hp
  have HR2 := Aside0.mk (show R = .error f from HR.out.symm)
  have HBB := Aside0.mk hb
  clear HR hb
  go_wp2_with fail
  exact ⟨rfl, by rw [HR2.out]; exact ⟨rfl, HBB.out⟩⟩
 | ok k1 =>
 rw [h1] at hp
 obtain ⟨rfl, hp1, hk1⟩ := hp
 have hr := HR.out
 rw [h1] at hr
 dsimp only at hr
 replace HR := Aside0.mk hr
 clear hr h1
 replace HK := Aside0.mk (KeepBut.trans HK.out hk1 (.inl rfl))
 replace HP := Aside0.mk hp1
 clear hp1 hk1
 go_wp2_with fail
 refine (takes_calls HP.out clsS).mono ?_
 rintro e w2 ⟨rfl, hp1, hk1⟩
 replace HK := Aside0.mk (KeepBut.trans HK.out hk1 (.inl rfl))
 replace HP := Aside0.mk hp1
 clear hp1 hk1
 cases ht : takesR ws clsS k1 with
 | true =>
  have hr := HR.out
  rw [ht, if_pos rfl] at hr
  replace HR := Aside0.mk hr
  have hp := HP.out
  rw [ht, if_pos rfl] at hp
  replace HP := Aside0.mk hp
  clear hr hp ht
  go_wp2_with fail
  go_ret
  rw [← HR.out]
  exact ⟨_, rfl, Kd.R_nil _ _ _ _ _, HP.out, HK.out⟩
 | false =>
 have hr := HR.out
 rw [ht, if_neg Bool.false_ne_true] at hr
 replace HR := Aside0.mk hr
 have hp := HP.out
 rw [ht, if_neg Bool.false_ne_true] at hp
 replace HP := Aside0.mk hp
 clear hr hp ht
 go_wp2_with fail
 have HSZx := Aside0.mk (keep_size HK.out)
 refine (HX.out _ (k1) HP.out).mono ?_
 intro e w3 hp
 unfold POut at hp
 cases h1 : ex (k1) with
 | error f =>
  rw [h1] at hp
  have hr := HR.out
  rw [h1] at hr
  replace HR := Aside0.mk (show (.error f) = R from hr)
  clear hr h1
  obtain ⟨rfl, hb⟩ := hp
  have HR2 := Aside0.mk (show R = .error f from HR.out.symm)
  have HBB := Aside0.mk hb
  clear HR hb
  go_wp2_with fail
  exact ⟨rfl, by rw [HR2.out]; exact ⟨rfl, HBB.out⟩⟩
 | ok x =>
 obtain ⟨x, kx⟩ := x
 have HLTx := Aside0.mk (HFW.out _ _ _ h1)
 rw [h1] at hp
 dsimp only at hp
 obtain ⟨ux, rfl, retx, hp1, hk1⟩ := hp
 have hr := HR.out
 rw [h1] at hr
 dsimp only at hr
 replace HR := Aside0.mk hr
 clear hr h1
 replace HK := Aside0.mk (KeepBut.trans HK.out hk1 (.inl rfl))
 replace HP := Aside0.mk hp1
 clear hp1 hk1
 obtain ⟨csx, rfl, hmx⟩ := retx
 have hnx := kE.M_lower (base' := w.heap.size) HSZx.out hmx
 obtain ⟨v3x, v4x, rfl, _, _⟩ := k38_openM hnx
 have HMx := Aside0.mk hnx
 have HMBx := Aside0.mk hmx
 clear hmx hnx
 have HRW := Aside0.mk (R_lit_mk (kE) 38 w3 w.heap.size (keep_size HK.out) [x] [.int .i64 x.f0, .string x.f1, .int .i64 x.f2, v3x, v4x] ((Reps.none _ _).snoc HMx.out rfl) (by simp))
 go_wp2_with fail
 replace HP := Aside0.mk (HP.out.alloc (.cells #[.int .i64 x.f0, .string x.f1, .int .i64 x.f2, v3x, v4x] 38 (0, 0)))
 replace HK := Aside0.mk (keep_alloc HK.out (.cells #[.int .i64 x.f0, .string x.f1, .int .i64 x.f2, v3x, v4x] 38 (0, 0)))
 have HLX := Aside0.mk (show 1 ≤ kx by have := HLTx.out; omega)
 skip
 go_loopg [5] (ws.length + 1) (fun gg s_ wr => ∃ (m kp : Nat) (l : List S38) (v : Value), m ≤ gg ∧ ws.length + 1 ≤ m + kp ∧ l.length ≤ kp ∧ s_ = v ∧ Aside0 (PS w0 wr g ws kp o) ∧ Aside0 (KeepBut w wr g none) ∧ Aside0 ((kE).R 38 wr w.heap.size (fun _ => True) v l) ∧ Aside0 (manyR ws ex m kp l = R))
 case atStart => exact ⟨ws.length + 1, kx, [x], _, Nat.le_refl _, by omega, by have := HLX.out; simpa using this, rfl, HP, HK, HRW, HR⟩
 case round =>
  clear HP HK HRW HR HLX HLTx HMx HMBx
  obtain ⟨m, kp, l, v, hm, hmk, hll, rfl, HP, HK, HRW, HR⟩ := hrel
  have hle := HP.out.le
  have hfew := HP.out.few
  obtain ⟨m, rfl⟩ : ∃ m', m = m' + 1 := ⟨m - 1, by omega⟩
  obtain ⟨A5, c5, rfl⟩ := Kd.R_slice HRW.out
  go_wp2_with fail
  refine (takes_calls HP.out comS).mono ?_
  rintro e w4 ⟨rfl, hp1, hk1⟩
  replace HRW := Aside0.mk (HP.out.keepR (by decide) HRW.out hk1)
  replace HK := Aside0.mk (KeepBut.trans HK.out hk1 (.inl rfl))
  replace HP := Aside0.mk hp1
  clear hp1 hk1
  have hr := HR.out
  unfold manyR at hr
  have hp := HP.out
  cases ht : takesR ws comS kp with
  | true =>
   rw [ht, if_pos rfl] at hr hp
   replace HR := Aside0.mk hr
   replace HP := Aside0.mk hp
   clear hr hp ht
   go_wp2_with fail
   have HB4 := Aside0.mk (R_bound_lt HRW.out)
   have HSZw4 := Aside0.mk (keep_size HK.out)
   have HSZy := Aside0.mk (keep_size HK.out)
   refine (HX.out _ (kp + 1) HP.out).mono ?_
   intro e w5 hp
   unfold POut at hp
   cases h1 : ex (kp + 1) with
   | error f =>
    rw [h1] at hp
    have hr := HR.out
    rw [h1] at hr
    replace HR := Aside0.mk (show (.error f) = R from hr)
    clear hr h1
    obtain ⟨rfl, hb⟩ := hp
    have HR2 := Aside0.mk (show R = .error f from HR.out.symm)
    have HBB := Aside0.mk hb
    clear HR hb
    go_wp2_with fail
    exact ⟨rfl, by rw [HR2.out]; exact ⟨rfl, HBB.out⟩⟩
   | ok y =>
   obtain ⟨y, ky⟩ := y
   have HLTy := Aside0.mk (HFW.out _ _ _ h1)
   rw [h1] at hp
   dsimp only at hp
   obtain ⟨uy, rfl, rety, hp1, hk1⟩ := hp
   have hr := HR.out
   rw [h1] at hr
   dsimp only at hr
   replace HR := Aside0.mk hr
   clear hr h1
   replace HRW := Aside0.mk (HP.out.keepR (by decide) HRW.out hk1)
   replace HK := Aside0.mk (KeepBut.trans HK.out hk1 (.inl rfl))
   replace HP := Aside0.mk hp1
   clear hp1 hk1
   obtain ⟨csy, rfl, hmy⟩ := rety
   have hny := kE.M_lower (base' := w.heap.size) HSZy.out hmy
   obtain ⟨v3y, v4y, rfl, _, _⟩ := k38_openM hny
   have HMy := Aside0.mk hny
   have HMBy := Aside0.mk hmy
   clear hmy hny
   go_wp2_with (at_builtin; refine Kd.R_append (kE) (w0 := w5) w.heap.size rfl (.tmp 16) (.tmp 19) 36 38 (.agg #[.int .i64 0, .string ⟨#[]⟩, .int .i64 0, .slice none 0 0, .slice none 0 0]) 80 rfl HU.out infoE rfl (by decide) (by omega) (.slice A5 l.length c5) l y [.int .i64 y.f0, .string y.f1, .int .i64 y.f2, v3y, v4y] (fun _ => True) (fun k => w4.heap.size ≤ k) rfl rfl (M_base HMBy.out (keep_size HK.out) HSZw4.out) (fun k hk => ⟨trivial, fun e => by have := HB4.out _ e.symm; omega⟩) (fun _ _ => trivial) HRW.out (Below.refl _ _) (keep_size HK.out) (by omega) ?_; intro v1 w6 hr6 hb6 hg6 hat6; have HRW6 := Aside0.mk hr6; have HG6 := Aside0.mk hg6; clear hr6 hb6 hg6 hat6)
   have hge : ∀ k, (Value.slice A5 l.length c5).ownBlock = some k → w.heap.size ≤ k := by
    obtain ⟨_, _, ho, _⟩ := HRW.out
    exact own_base ho
   have hng : (Value.slice A5 l.length c5).ownBlock ≠ some g := by
    obtain ⟨_, _, hb, _⟩ := HP.out.st
    have := Kd.R_ne HRW.out hb (by decide)
    exact fun e => this e.symm
   have HP6 := Aside0.mk ((HP.out).grown_own HG6.out hng (fun k hk => Nat.le_trans HLE.out (hge k hk)))
   have HK6 := Aside0.mk (keep_grown_own HK.out HG6.out hge)
   go_roundg m
   case measure => omega
   case rel => exact ⟨m, ky, l ++ [y], v1, Nat.le_refl _, by have := HLTy.out; omega, by have := HLTy.out; simp; omega, rfl, HP6, HK6, HRW6, HR⟩
  | false =>
  rw [ht, if_neg Bool.false_ne_true] at hr hp
  replace HR := Aside0.mk hr
  replace HP := Aside0.mk hp
  clear hr hp ht
  go_wp2_with fail
  refine (want_lits HP.out [clsS] (by decide) _ rfl 1 rfl).mono ?_
  intro e w5 hp
  unfold POut0 at hp
  try simp only [wantsR] at hp
  cases h1 : wantR ws clsS kp with
  | error f =>
   rw [h1] at hp
   have hr := HR.out
   rw [h1] at hr
   replace HR := Aside0.mk (show (.error f) = R from hr)
   clear hr h1
   obtain ⟨rfl, hb⟩ := hp
   have HR2 := Aside0.mk (show R = .error f from HR.out.symm)
   have HBB := Aside0.mk hb
   clear HR hb
   go_wp2_with fail
   exact ⟨rfl, by rw [HR2.out]; exact ⟨rfl, HBB.out⟩⟩
  | ok k5 =>
  rw [h1] at hp
  obtain ⟨rfl, hp1, hk1⟩ := hp
  have hr := HR.out
  rw [h1] at hr
  dsimp only at hr
  replace HR := Aside0.mk hr
  clear hr h1
  replace HRW := Aside0.mk (HP.out.keepR (by decide) HRW.out hk1)
  replace HK := Aside0.mk (KeepBut.trans HK.out hk1 (.inl rfl))
  replace HP := Aside0.mk hp1
  clear hp1 hk1
  go_wp2_with fail
  go_ret
  rw [← HR.out]
  exact ⟨_, rfl, HRW.out, HP.out, HK.out⟩
end
end Go.Proofs.YticndoihkfbpoaaGreatDoor
