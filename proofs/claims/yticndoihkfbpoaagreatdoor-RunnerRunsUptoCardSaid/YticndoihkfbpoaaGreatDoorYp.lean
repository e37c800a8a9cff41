/- The reference's frame: step: a function does an instant. -/
import Derived.Test.YticndoihkfbpoaaGreatDoorYq
namespace Go.Proofs.YticndoihkfbpoaaGreatDoor
open Go Go.RowKit Go.Lib Go.Proofs.YticndoihkfbpoaaGreatDoorW.PrintWords Go.Proofs.YticndoihkfbpoaaGreatDoor.PScope
set_option maxRecDepth 100000
set_option linter.unusedSimpArgs false
set_option linter.unusedVariables false
attribute [local irreducible] wpStill
theorem argsV_in {m : List Cl} (hm : MemIn m) (base : Int) {f : Vars} (hf : VarsIn f) : ∀ {args : List S38} (h : ∀ x ∈ args, ExIn x) {al : Bool} {vs : List Int}, argsV m base f args = some (al, vs) → ∀ v ∈ vs, InR v
 | [], _, al, vs, h => by unfold argsV at h; injection h with h; injection h with h1 h2; subst h2; intro v hv; simp at hv
 | e :: r, hx, al, vs, h => by
  unfold argsV at h
  cases hv : valE m base f e with
  | none => rw [hv] at h; cases h
  | some c =>
   rw [hv] at h
   cases hr : argsV m base f r with
   | none => rw [hr] at h; cases h
   | some p =>
    rw [hr] at h
    injection h with h
    injection h with h1 h2
    subst h2
    intro v hvm
    rcases List.mem_cons.1 hvm with rfl | hvm
    ·exact valE_in hm base hf (hx e (by simp)) hv
    ·exact argsV_in hm base hf (fun x hx' => hx x (by simp [hx'])) (al := p.1) (vs := p.2) hr v hvm
theorem inp_of {w W w9 : World} {r : Option (List Int)} {e : Ending} (hw : w.heap.size ≤ W.heap.size) (h : match r with | some xs => ∃ B cB, e = .returned (.tuple #[.slice B xs.length cB, .bool true]) ∧ (Kd.int .i64).C w9 B xs.length xs ∧ (∀ ad, B = some ad → W.heap.size ≤ ad.block ∧ ¬ IsSl w9 ad.block) ∧ (∀ x ∈ xs, InR x) | none => e = .returned (.tuple #[.slice none 0 0, .bool false])) :
  ∃ (B : Option Addr) (cB : Nat), e = .returned (.tuple #[.slice B (r.getD []).length cB, .bool r.isSome]) ∧ (Kd.int .i64).C w9 B (r.getD []).length (r.getD []) ∧ (∀ ad, B = some ad → w.heap.size ≤ ad.block ∧ ¬ IsSl w9 ad.block) ∧ (∀ x ∈ r.getD [], InR x) := by
 cases r with
 | none => exact ⟨none, 0, h, Kd.C_nil _ _, (fun ad e => by cases e), (fun x hx => by cases hx)⟩
 | some xs =>
  obtain ⟨B, cB, h1, h2, h3, h4⟩ := h
  exact ⟨B, cB, h1, h2, fun ad e => ⟨Nat.le_trans hw (h3 ad e).1, (h3 ad e).2⟩, h4⟩
set_option maxHeartbeats 8000000 in
theorem rstep_calls (w0 : World) (g : Nat) (ma : Addr) (A : Option Addr) (c : Nat) (l : List FF) (N : Nat) (tr : Bool) (gf : Nat) (base : Int) (bv : Nat) (I : Inst) (d : Nat) (hI : RISays w0 g ma A c l N tr d I)
  (hIL : ∀ (k fb : Int) (ins : List Int) (m : List Cl) (cn : Int) (xs : List Int), (I k fb ins m cn).2.2 = some xs → xs.length = (l.getD k.toNat zFF).results.length) (hC : kFF.C w0 A l.length l) (hfw : ∀ f ∈ l, f.params.length ≤ 8796093022208) (hd : (d : Int) ≤ (l.length : Int)) : RStepSays w0 g ma A c l N tr gf base bv I d := by
 intro s cs f m cn q w h3 hb hK h hea hqq
 have hfn := badS_fn hb h3
 have hf0 := hfn.1
 have hf1 : s.fn < (l.length : Int) := by omega
 have HFD := Aside0.mk hfn.2
 obtain ⟨sA4, sc4, sA8, sc8, sA9, sc9, sA6, sc6, sA7, sc7, rfl, sl4, sg4, sl8, sg8, sl9, sg9, sl6, sg6, sl7, sg7⟩ := kFS_openV hK
 clear hfn hb h3 hK
 have HI := Aside0.mk hI; have HIL := Aside0.mk hIL; have HC := Aside0.mk hC; have HFW := Aside0.mk hfw; have HEA := Aside0.mk hea; have HQQ := Aside0.mk hqq
 clear hI hIL hC hfw hd hea hqq
 have sL4 := Aside0.mk sl4; have sG4 := Aside0.mk sg4; clear sl4 sg4
 have sL8 := Aside0.mk sl8; have sG8 := Aside0.mk sg8; clear sl8 sg8
 have sL9 := Aside0.mk sl9; have sG9 := Aside0.mk sg9; clear sl9 sg9
 have sL6 := Aside0.mk sl6; have sG6 := Aside0.mk sg6; clear sl6 sg6
 have sL7 := Aside0.mk sl7; have sG7 := Aside0.mk sg7; clear sl7 sg7
 obtain ⟨R, hR⟩ : ∃ R, stepX I l N base s.pos s.fn s.names s.args f m cn = R := ⟨_, rfl⟩
 rw [hR]
 have HR := Aside0.mk hR
 clear hR
 have hBA := below_alloc (Below.refl w.heap.size w) (.cells #[.int .i64 s.op, .string s.name, .int .i64 s.pos, .int .i64 s.fn, .slice sA4 (s.names).length sc4, .int .i64 s.e.f0, .string s.e.f1, .int .i64 s.e.f2, .slice sA8 (s.e.f3).length sc8, .slice sA9 (s.e.f4).length sc9, .slice sA6 (s.args).length sc6, .slice sA7 (s.arms).length sc7] 41)
 have BS := Aside0.mk (blk_new w (.cells #[.int .i64 s.op, .string s.name, .int .i64 s.pos, .int .i64 s.fn, .slice sA4 (s.names).length sc4, .int .i64 s.e.f0, .string s.e.f1, .int .i64 s.e.f2, .slice sA8 (s.e.f3).length sc8, .slice sA9 (s.e.f4).length sc9, .slice sA6 (s.args).length sc6, .slice sA7 (s.arms).length sc7] 41))
 have NS := Aside0.mk (show w.heap.size ≠ g ∧ w.heap.size ≠ ma.block ∧ w.heap.size ≠ gf from by have := h.lts; omega)
 have NGF := Aside0.mk (show gf < w.heap.size from h.lts.1)
 have HF := Aside0.mk (h.below' hBA)
 have HB := Aside0.mk hBA
 clear h hBA
 go_enter Tryz.func115, Tryz.ntmps115
 go_wp2_with fail
 obtain ⟨gs, hq⟩ : ∃ gs, w.heap.size = gs := ⟨_, rfl⟩
 rw [hq] at BS NS ⊢
 have HQ := Aside0.mk hq; clear hq
 generalize w.alloc (.cells #[.int .i64 s.op, .string s.name, .int .i64 s.pos, .int .i64 s.fn, .slice sA4 (s.names).length sc4, .int .i64 s.e.f0, .string s.e.f1, .int .i64 s.e.f2, .slice sA8 (s.e.f3).length sc8, .slice sA9 (s.e.f4).length sc9, .slice sA6 (s.args).length sc6, .slice sA7 (s.arms).length sc7] 41) = w1 at HF HB BS ⊢
 obtain ⟨fv, fvs, hfrm, _, _, _⟩ := HF.out.frm
 have x0 := (blk_cell hfrm 0).trans rfl
 clear hfrm
 have y0 := (blk_cell HF.out.run.blk 0).trans rfl
 have cs_3 := (blk_cell BS.out 3).trans rfl
 obtain ⟨xad, xcs, rfl, _, xK, xcc⟩ := Kd.C_get HC.out zFF s.fn (by omega) (by omega)
 have xK' := xK
 obtain ⟨xA0, xc0, xA1, xc1, xA3, xc3, xA4, xc4, xA5, xc5, rfl, xl0, xg0, xl1, xg1, xl3, xg3, xl4, xg4, xl5, xg5⟩ := kFF_open6 xK'
 have xx0 := (HF.out.run.below.cell (World.block_lt_of_cell? w0 _ (xcc 0 _ rfl))).trans (xcc 0 _ rfl)
 have xx1 := (HF.out.run.below.cell (World.block_lt_of_cell? w0 _ (xcc 1 _ rfl))).trans (xcc 1 _ rfl)
 have xx2 := (HF.out.run.below.cell (World.block_lt_of_cell? w0 _ (xcc 2 _ rfl))).trans (xcc 2 _ rfl)
 have xx3 := (HF.out.run.below.cell (World.block_lt_of_cell? w0 _ (xcc 3 _ rfl))).trans (xcc 3 _ rfl)
 have xx4 := (HF.out.run.below.cell (World.block_lt_of_cell? w0 _ (xcc 4 _ rfl))).trans (xcc 4 _ rfl)
 have xx5 := (HF.out.run.below.cell (World.block_lt_of_cell? w0 _ (xcc 5 _ rfl))).trans (xcc 5 _ rfl)
 rw [show (kFF).sz = 6 from rfl, Nat.add_zero] at xx0
 rw [show (kFF).sz = 6 from rfl, add_field _ _ 1 (by omega)] at xx1
 rw [show (kFF).sz = 6 from rfl, add_field _ _ 2 (by omega)] at xx2
 rw [show (kFF).sz = 6 from rfl, add_field _ _ 3 (by omega)] at xx3
 rw [show (kFF).sz = 6 from rfl, add_field _ _ 4 (by omega)] at xx4
 rw [show (kFF).sz = 6 from rfl, add_field _ _ 5 (by omega)] at xx5
 clear xcc
 generalize Yx0 : l.getD s.fn.toNat zFF = x at xx0 xx1 xx2 xx3 xx4 xx5 xK xl0 xg0 xl1 xg1 xl3 xg3 xl4 xg4 xl5 xg5
 have Yx := Aside0.mk Yx0; clear Yx0
 clear xl0 xg0 xl1 xg1 xl3 xg3 xl4 xg4 xl5 xg5 xK
 have HXP := Aside0.mk (HFW.out x (by rw [← Yx.out]; exact getD_mem (by omega) zFF))
 have HLN := Aside0.mk (fun (ks : List Int) (m : List Cl) (cn : Int) (vs : List Int) (fb : Int) (h : (I s.fn fb vs m cn).2.2 = some ks) => show ks.length = x.results.length by rw [← Yx.out]; exact HIL.out _ _ _ _ _ _ h)
 have x0a := fun (ob : Obj) => cell?_alloc_some ob x0
 have y0a := fun (ob : Obj) => cell?_alloc_some ob y0
 have cs_3a := fun (ob : Obj) => cell?_alloc_some ob cs_3
 have xx0a := fun (ob : Obj) => cell?_alloc_some ob xx0
 have xx1a := fun (ob : Obj) => cell?_alloc_some ob xx1
 have xx2a := fun (ob : Obj) => cell?_alloc_some ob xx2
 have xx3a := fun (ob : Obj) => cell?_alloc_some ob xx3
 have xx4a := fun (ob : Obj) => cell?_alloc_some ob xx4
 have xx5a := fun (ob : Obj) => cell?_alloc_some ob xx5
 go_cut [5] from 13 to 24 (fun s5 wx => ∃ gx, s5 = .pointer (some ⟨gx, 0, none⟩) ∧ Aside0 (FAtR w0 wx g ma (some xad) c l N m tr cn gf base bv q f false) ∧ Aside0 (Below w.heap.size w wx) ∧ Aside0 (wx.heap[gs]? = some (.cells #[.int .i64 s.op, .string s.name, .int .i64 s.pos, .int .i64 s.fn, .slice sA4 (s.names).length sc4, .int .i64 s.e.f0, .string s.e.f1, .int .i64 s.e.f2, .slice sA8 (s.e.f3).length sc8, .slice sA9 (s.e.f4).length sc9, .slice sA6 (s.args).length sc6, .slice sA7 (s.arms).length sc7] 41 (0, 0))) ∧ Aside0 (wx.heap[gx]? = some (.cells #[.slice xA0 (x.params).length xc0, .slice xA1 (x.results).length xc1, .int .i64 x.cells, .slice xA3 (x.flags).length xc3, .slice xA4 (x.parts).length xc4, .slice xA5 (x.body).length xc5] 35 (0, 0))))
 case first =>
  have HBA := below_drew1 (below_alloc (Below.refl w1.heap.size w1) (.cells #[.slice xA0 (x.params).length xc0, .slice xA1 (x.results).length xc1, .int .i64 x.cells, .slice xA3 (x.flags).length xc3, .slice xA4 (x.parts).length xc4, .slice xA5 (x.body).length xc5] 35))
  have HF4 := Aside0.mk (HF.out.below' HBA)
  have HB4 := Aside0.mk (below_step HB.out HBA)
  have BS4 := Aside0.mk (below_blk BS.out HBA)
  have BX4 := Aside0.mk (blk_drew (blk_new w1 (.cells #[.slice xA0 (x.params).length xc0, .slice xA1 (x.results).length xc1, .int .i64 x.cells, .slice xA3 (x.flags).length xc3, .slice xA4 (x.parts).length xc4, .slice xA5 (x.body).length xc5] 35)))
  clear HBA HF HB BS
  go_region
  all_goals
   go_wp2_with fail
   go_meet
   case rel => exact ⟨_, rfl, HF4, HB4, BS4, BX4⟩
 case rest =>
 clear HF HB BS x0 x0a y0 y0a cs_3 cs_3a xx0 xx0a xx1 xx1a xx2 xx2a xx3 xx3a xx4 xx4a xx5 xx5a
 obtain ⟨gx, rfl, HF, HB, BS, BX⟩ := hcut
 skip
 by_cases q0 : x.params.length = s.args.length
 ·by_cases q1 : x.results.length = s.names.length
  ·have d0 : ((x.params.length : Int) != (s.args.length : Int)) = false := by rw [q0]; exact bne_self_eq_false _
   have d1 : ((x.results.length : Int) != (s.names.length : Int)) = false := by rw [q1]; exact bne_self_eq_false _
   have Q := Aside0.mk (And.intro q0 q1)
   clear q0 q1
   have cx_0 := (blk_cell BX.out 0).trans rfl
   have cx_1 := (blk_cell BX.out 1).trans rfl
   have cs_4 := (blk_cell BS.out 4).trans rfl
   have cs_10 := (blk_cell BS.out 10).trans rfl
   go_upto_region 5 with fail
   clear d0 d1 cx_0 cx_1 cs_4 cs_10
   have cs_10 := (blk_cell BS.out 10).trans rfl
   have QX := Aside0.mk (show (l.getD s.fn.toNat zFF).params.length = s.args.length ∧ (l.getD s.fn.toNat zFF).results.length = s.names.length by rw [Yx.out]; exact Q.out)
   have HAM := Aside0.mk (show s.args.length ≤ 8796093022208 by have := Q.out.1; have := HXP.out; omega)
   have HU := Aside0.mk Tryz.underlying49
   obtain ⟨w5, hw5⟩ : ∃ w5, w5 = wc := ⟨_, rfl⟩
   subst hw5
   have HW := Aside0.mk (Below.refl w5.heap.size w5)
   have HRW := Aside0.mk (Kd.R_nil (Kd.int .i64) 2 w5 w5.heap.size (fun _ => True))
   go_wp2_with fail
   clear cs_10
   have haml : s.args.length ≤ 8796093022208 := HAM.out
   go_loopg [6, 7, 8] s.args.length (fun gg s6 s7 s8 wr => ∃ (kk : Nat) (v6 : Value) (al : Bool) (vs : List Int), kk ≤ s.args.length ∧ s.args.length - kk ≤ gg ∧ s8 = .int .i64 kk ∧ s6 = v6 ∧ s7 = .bool al ∧ Aside0 (Below w5.heap.size w5 wr) ∧ Aside0 ((Kd.int .i64).R 2 wr w5.heap.size (fun _ => True) v6 vs) ∧ Aside0 (vs.length = kk) ∧ Aside0 (argP al vs (argsV m base f (s.args.drop kk)) = argsV m base f s.args))
   case atStart => exact ⟨0, _, true, [], Nat.zero_le _, by omega, rfl, rfl, rfl, HW, HRW, ⟨rfl⟩, ⟨argP_start _⟩⟩
   case round =>
    clear HW HRW
    obtain ⟨kk, v6, al, vs, hkk, hgk, rfl, rfl, rfl, HW, HRW, HVL, HP⟩ := hrel
    obtain ⟨A6, c6, rfl⟩ := Kd.R_slice HRW.out
    have cs_10 := (blk_cell (below_blk BS.out HW.out) 10).trans rfl
    by_cases hlt : kk < s.args.length
    ·have hltz : (kk : Int) < (s.args.length : Int) := by omega
     have HP1 := Aside0.mk (show argP al vs (argsV m base f (s.args.getD kk z38 :: s.args.drop (kk + 1))) = argsV m base f s.args by rw [← drop_getD s.args kk hlt z38]; exact HP.out)
     clear HP
     obtain ⟨y, hy⟩ : ∃ y, s.args.getD kk z38 = y := ⟨_, rfl⟩
     have HEY := Aside0.mk (HEA.out y (by rw [← hy]; exact getD_mem hlt _))
     rw [hy] at HP1
     have HFW := Aside0.mk (HF.out.below' HW.out)
     obtain ⟨yad, yA3, yc3, yA4, yc4, hA6, yK, yx0, yx1, yx2, yx3, yx4⟩ := kid_cells HFW.out.run.below sG6.out kk hlt y hy
     subst hA6
     have YK := Aside0.mk yK
     clear yK hy
     rcases hv : valE m base f y with _ | ⟨v, on⟩
     ·have HV := Aside0.mk (rv_trap HEY.out HFW.out YK.out hv)
      have HRN := Aside0.mk (show R = (m, cn, none) by rw [← HR.out]; exact stepX_none (by rw [← HP1.out]; exact argP_none hv))
      have HBW := Aside0.mk (below_step HB.out HW.out)
      clear hv HP1 HR
      go_wp2_with fail
      refine HV.out.mono ?_
      rintro e w6 ⟨rfl, hF6, ht6⟩
      have HF6 := Aside0.mk hF6
      have HT6 := Aside0.mk ((DV_below (g := g) (ma := ma) (gf := gf) (bv := bv) HBW.out).trans (ht6.mono (fun k _ hk => .inr (.inl hk))))
      clear hF6 ht6 HV HW HRW cs_10 yx0 yx1 yx2 yx3 yx4
      go_wp2_with ((with_reducible refine gate_store (t := 93) (p := 9) rfl ?_); refine store_whole rfl rfl 93 _ _ rfl w6.heap.size _ 93 rfl (blk_new _ _) _ rfl rfl rfl (by simp [Value.oneCell']) ?_; intro w2 hb2 hg2; have HBA := Aside0.mk (below_as (Below.refl w6.heap.size w6) hg2); replace HF6 := Aside0.mk (HF6.out.below' HBA.out); replace HT6 := Aside0.mk (HT6.out.step HBA.out); obtain ⟨gc, hq_⟩ : ∃ g_, g_ = w6.heap.size := ⟨_, rfl⟩; rw [← hq_] at hb2; rw [← hq_]; have BC := Aside0.mk hb2; clear hb2 hg2 hq_ HBA; have cc_0 := (blk_cell BC.out 0).trans rfl; have cc_1 := (blk_cell BC.out 1).trans rfl; obtain ⟨fv6, fvs6, hfrm6, _, _, _⟩ := HF6.out.frm; have x3 := (blk_cell hfrm6 3).trans rfl; clear hfrm6)
      go_ret
      exact rdo_no HRN.out HF6.out.run HF6.out.inm HT6.out
     ·have HV := Aside0.mk (rv_ok HEY.out HFW.out YK.out hv)
      have HP2 := Aside0.mk (show argP (al && on) (vs ++ [v]) (argsV m base f (s.args.drop (kk + 1))) = argsV m base f s.args by rw [← HP1.out, argP_some hv])
      have HVL1 := Aside0.mk (show (vs ++ [v]).length = kk + 1 by have := HVL.out; simp; omega)
      clear hv HP1
      go_wp2_with fail
      refine HV.out.mono ?_
      rintro e w6 ⟨rfl, hb⟩
      replace HW := Aside0.mk (below_step HW.out hb)
      replace HRW := Aside0.mk (Kd.R_below HRW.out hb)
      replace HFW := Aside0.mk (HFW.out.below' hb)
      clear hb HV cs_10 yx0 yx1 yx2 yx3 yx4
      cases al with
      | false =>
       go_wp2_with (first | ((with_reducible refine gate_store (t := 93) (p := 9) rfl ?_); refine store_whole rfl rfl 93 _ _ rfl w6.heap.size _ 93 rfl (blk_new _ _) _ rfl rfl rfl (by simp [Value.oneCell']) ?_; intro w2 hb2 hg2; have HBA := Aside0.mk (below_as (Below.refl w6.heap.size w6) hg2); replace HW := Aside0.mk (below_step HW.out HBA.out); replace HRW := Aside0.mk (Kd.R_below HRW.out HBA.out); replace HFW := Aside0.mk (HFW.out.below' HBA.out); obtain ⟨gc, hq_⟩ : ∃ g_, g_ = w6.heap.size := ⟨_, rfl⟩; rw [← hq_] at hb2; rw [← hq_]; have BC := Aside0.mk hb2; clear hb2 hg2 hq_ HBA; have cc_0 := (blk_cell BC.out 0).trans rfl; have cc_1 := (blk_cell BC.out 1).trans rfl; obtain ⟨fv6, fvs6, hfrm6, _, _, _⟩ := HFW.out.frm; have x3 := (blk_cell hfrm6 3).trans rfl; clear hfrm6) | (at_builtin; refine Kd.R_append (Kd.int .i64) (w0 := w5) w5.heap.size rfl (.tmp 64) (.tmp 67) 49 2 (.int .i64 0) 8 rfl HU.out info_int64 rfl (by decide) (by omega) (.slice A6 vs.length c6) vs v [.int .i64 v] (fun _ => True) (fun _ => False) rfl rfl (show (Kd.int .i64).M _ _ _ v [.int .i64 v] from rfl) (fun k hk => hk.elim) (fun _ _ => trivial) HRW.out HW.out HW.out.size (by have := HVL.out; omega) ?_; intro v1 w7 hr7 hb7 hg7 hat7; have HRW7 := Aside0.mk hr7; have HW7 := Aside0.mk hb7; clear hr7 hg7 hat7 hb7 HRW HW))
       go_roundg (s.args.length - (kk + 1))
       case measure => omega
       case rel => exact ⟨kk + 1, v1, false, vs ++ [v], by omega, by omega, by go_num, rfl, rfl, HW7, HRW7, HVL1, HP2⟩
      | true =>
       go_wp2_with (first | ((with_reducible refine gate_store (t := 93) (p := 9) rfl ?_); refine store_whole rfl rfl 93 _ _ rfl w6.heap.size _ 93 rfl (blk_new _ _) _ rfl rfl rfl (by simp [Value.oneCell']) ?_; intro w2 hb2 hg2; have HBA := Aside0.mk (below_as (Below.refl w6.heap.size w6) hg2); replace HW := Aside0.mk (below_step HW.out HBA.out); replace HRW := Aside0.mk (Kd.R_below HRW.out HBA.out); replace HFW := Aside0.mk (HFW.out.below' HBA.out); obtain ⟨gc, hq_⟩ : ∃ g_, g_ = w6.heap.size := ⟨_, rfl⟩; rw [← hq_] at hb2; rw [← hq_]; have BC := Aside0.mk hb2; clear hb2 hg2 hq_ HBA; have cc_0 := (blk_cell BC.out 0).trans rfl; have cc_1 := (blk_cell BC.out 1).trans rfl; obtain ⟨fv6, fvs6, hfrm6, _, _, _⟩ := HFW.out.frm; have x3 := (blk_cell hfrm6 3).trans rfl; clear hfrm6) | (at_builtin; refine Kd.R_append (Kd.int .i64) (w0 := w5) w5.heap.size rfl (.tmp 64) (.tmp 67) 49 2 (.int .i64 0) 8 rfl HU.out info_int64 rfl (by decide) (by omega) (.slice A6 vs.length c6) vs v [.int .i64 v] (fun _ => True) (fun _ => False) rfl rfl (show (Kd.int .i64).M _ _ _ v [.int .i64 v] from rfl) (fun k hk => hk.elim) (fun _ _ => trivial) HRW.out HW.out HW.out.size (by have := HVL.out; omega) ?_; intro v1 w7 hr7 hb7 hg7 hat7; have HRW7 := Aside0.mk hr7; have HW7 := Aside0.mk hb7; clear hr7 hg7 hat7 hb7 HRW HW))
       go_roundg (s.args.length - (kk + 1))
       case measure => omega
       case rel => exact ⟨kk + 1, v1, on, vs ++ [v], by omega, by omega, by go_num, rfl, rfl, HW7, HRW7, HVL1, HP2⟩
    ·obtain rfl : kk = s.args.length := by omega
     have hltz : ¬ ((s.args.length : Int) < (s.args.length : Int)) := by omega
     have HAV := Aside0.mk (show argsV m base f s.args = some (al, vs) by rw [← HP.out, List.drop_length]; exact argP_end)
     clear HP hgk hkk hlt
     cases al with
     | false =>
      have HRN := Aside0.mk (show R = (m, cn, none) by rw [← HR.out]; exact stepX_false HAV.out)
      clear HR HRW
      go_wp2_with fail
      go_ret
      exact rdo_no HRN.out (HF.out.below' HW.out).run HF.out.inm (DV_below (below_step HB.out HW.out))
     | true =>
      have HRT := Aside0.mk HRW.out
      obtain ⟨B6, d6, hv6, _, hC6⟩ := Kd.R_reads HRW.out
      injection hv6 with hv7 hv8 hv9
      subst hv7
      subst hv9
      have HC6 := Aside0.mk hC6
      clear hC6 hv8 HRW HRT
      replace HF := Aside0.mk (HF.out.below' HW.out)
      replace HB := Aside0.mk (below_step HB.out HW.out)
      replace BS := Aside0.mk (below_blk BS.out HW.out)
      clear HW BX
      have HVN := Aside0.mk (show vs.length = (l.getD s.fn.toNat zFF).params.length by rw [argsV_length HAV.out]; exact QX.out.1.symm)
      have HVI := Aside0.mk (argsV_in HF.out.inm base HF.out.inv HEA.out HAV.out)
      go_upto_region 16 with fail
      clear cs_10
      obtain ⟨fv, fvs, hfrm, _, _, _⟩ := HF.out.frm
      have x0 := (blk_cell hfrm 0).trans rfl
      have x1 := (blk_cell hfrm 1).trans rfl
      clear hfrm
      have cs_2 := (blk_cell BS.out 2).trans rfl
      have cs_3 := (blk_cell BS.out 3).trans rfl
      obtain ⟨fb, hfb⟩ : ∃ fb, furV N base s.pos = fb := ⟨_, rfl⟩
      obtain ⟨ab, hab⟩ : ∃ ab, addV base s.pos = ab := ⟨_, rfl⟩
      have hadj : adjV N ab = fb := by rw [← hab, ← hfb]; exact adj_add HF.out.b0 HF.out.b1 HF.out.run.few
      have HAD := Aside0.mk (fun (W : World) => add_calls base s.pos W)
      rw [hab] at HAD
      have HIN := Aside0.mk (fun (W : World) (hR : RAtR w0 W g ma (some xad) c l N m tr cn) (hV : (Kd.int .i64).C W A6 vs.length vs) => HI.out s.fn ab vs m cn W A6 c6 hf0 HFD.out HVN.out hR HF.out.inm HVI.out hV)
      rw [hadj] at HIN
      have HRX := Aside0.mk (fun (m2 : List Cl) (cn2 : Int) (r : Option (List Int)) (h : I s.fn fb vs m cn = (m2, cn2, r)) => show R = (m2, cn2, r.map (fun outs => setAll s.names outs f)) by rw [← HR.out]; exact stepX_out QX.out HAV.out (by rw [hfb]; exact h))
      clear hfb hab hadj HR
      have HINC := Aside0.mk (show ∀ W, Below wr.heap.size wr W → Calls Tryz.prog 53 #[.pointer (some ⟨g, 0, none⟩), .int .i64 s.fn, .int .i64 ab, .slice A6 vs.length c6] W (fun e wx => ∃ (m2 : List Cl) (cn2 : Int) (r : Option (List Int)) (B : Option Addr) (cB : Nat), e = .returned (.tuple #[.slice B (r.getD []).length cB, .bool r.isSome]) ∧ (wx.cell? ⟨gf, 0, none⟩ = some (.pointer (some ⟨g, 0, none⟩)) ∧ wx.cell? ⟨gf, 1, none⟩ = some (.int .i64 base) ∧ wx.cell? ⟨gs, 2, none⟩ = some (.int .i64 s.pos) ∧ wx.cell? ⟨gs, 3, none⟩ = some (.int .i64 s.fn)) ∧ Aside0 ((I s.fn fb vs m cn = (m2, cn2, r)) ∧ (FAtR w0 wx g ma (some xad) c l N m2 tr cn2 gf base bv q f false) ∧ (Turned (DV g ma gf bv w) w wx) ∧ (wx.heap[gs]? = some (.cells #[.int .i64 s.op, .string s.name, .int .i64 s.pos, .int .i64 s.fn, .slice sA4 (s.names).length sc4, .int .i64 s.e.f0, .string s.e.f1, .int .i64 s.e.f2, .slice sA8 (s.e.f3).length sc8, .slice sA9 (s.e.f4).length sc9, .slice sA6 (s.args).length sc6, .slice sA7 (s.arms).length sc7] 41 (0, 0))) ∧ ((Kd.int .i64).C wx B (r.getD []).length (r.getD [])) ∧ (∀ ad, B = some ad → w.heap.size ≤ ad.block ∧ ¬ IsSl wx ad.block) ∧ (∀ x ∈ r.getD [], InR x))) from by
       intro W hW
       refine (HIN.out _ (HF.out.below' hW).run (Kd.C_below HC6.out hW)).mono ?_
       intro e w9 hp
       unfold RInPost at hp
       rcases hr : I s.fn fb vs m cn with ⟨m2, cn2, r⟩
       rw [hr] at hp
       obtain ⟨B, cB, rfl, hC9, hf9, hi9⟩ := inp_of (w := w) (below_step HB.out hW).size hp.1
       obtain ⟨_, hR9, hm9, ht9⟩ := hp
       have hF9 := (HF.out.below' hW).turned hR9 hm9 ht9
       have hS9 := ht9.blk (below_blk BS.out hW) (fun e => e.elim NS.out.1 NS.out.2.1)
       obtain ⟨fv9, fvs9, hfrm9, _, _, _⟩ := hF9.frm
       exact ⟨m2, cn2, r, B, cB, rfl, ⟨(blk_cell hfrm9 0).trans rfl, (blk_cell hfrm9 1).trans rfl, (blk_cell hS9 2).trans rfl, (blk_cell hS9 3).trans rfl⟩, ⟨rfl, hF9, DV.trans (DV_below (g := g) (ma := ma) (gf := gf) (bv := bv) (below_step HB.out hW)) (ht9.mono (fun k _ hk => .inl hk)), hS9, hC9, hf9, hi9⟩⟩)
      clear HIN HC6 HB
      go_cut [10, 11] from 72 to 88 (fun s10 s11 wx => ∃ (m2 : List Cl) (cn2 : Int) (r : Option (List Int)) (B : Option Addr) (cB : Nat), s10 = .slice B (r.getD []).length cB ∧ s11 = .bool r.isSome ∧ Aside0 ((I s.fn fb vs m cn = (m2, cn2, r)) ∧ (FAtR w0 wx g ma (some xad) c l N m2 tr cn2 gf base bv q f false) ∧ (Turned (DV g ma gf bv w) w wx) ∧ (wx.heap[gs]? = some (.cells #[.int .i64 s.op, .string s.name, .int .i64 s.pos, .int .i64 s.fn, .slice sA4 (s.names).length sc4, .int .i64 s.e.f0, .string s.e.f1, .int .i64 s.e.f2, .slice sA8 (s.e.f3).length sc8, .slice sA9 (s.e.f4).length sc9, .slice sA6 (s.args).length sc6, .slice sA7 (s.arms).length sc7] 41 (0, 0))) ∧ ((Kd.int .i64).C wx B (r.getD []).length (r.getD [])) ∧ (∀ ad, B = some ad → w.heap.size ≤ ad.block ∧ ¬ IsSl wx ad.block) ∧ (∀ x ∈ r.getD [], InR x)))
      case first =>
       have z0 : wr.cell? ⟨gf, 0, none⟩ = some (.pointer (some ⟨g, 0, none⟩)) := x0
       have z1 : wr.cell? ⟨gf, 1, none⟩ = some (.int .i64 base) := x1
       have z2 : wr.cell? ⟨gs, 2, none⟩ = some (.int .i64 s.pos) := cs_2
       have z3 : wr.cell? ⟨gs, 3, none⟩ = some (.int .i64 s.fn) := cs_3
       clear HF BS x0 x1 cs_2 cs_3
       go_region_held3 (fun w' => w'.cell? ⟨gf, 0, none⟩ = some (.pointer (some ⟨g, 0, none⟩)) ∧ w'.cell? ⟨gf, 1, none⟩ = some (.int .i64 base) ∧ w'.cell? ⟨gs, 2, none⟩ = some (.int .i64 s.pos) ∧ w'.cell? ⟨gs, 3, none⟩ = some (.int .i64 s.fn)) (go_keep) (first | (go_at_call 116; refine (HAD.out _).mono ?_; rintro e w8 ⟨rfl, rfl⟩) | (go_at_call 53; refine (HINC.out _ (by repeat (first | exact Below.refl _ _ | apply below_drew1))).mono ?_; rintro e w9 ⟨m2, cn2, r, B, cB, rfl, ⟨z0, z1, z2, z3⟩, HBIG⟩))
       all_goals
        go_wp2_with fail
        go_meet
        case rel => exact ⟨_, _, _, _, _, rfl, rfl, HBIG⟩
      case rest =>
      clear HF BS x0 x1 cs_2 cs_3 HINC HAD
      obtain ⟨m2, cn2, r, B, cB, rfl, rfl, HBIG⟩ := hcut
      have HRR := Aside0.mk HBIG.out.1; have HF := Aside0.mk HBIG.out.2.1; have HT := Aside0.mk HBIG.out.2.2.1; have BS := Aside0.mk HBIG.out.2.2.2.1; have HC := Aside0.mk HBIG.out.2.2.2.2.1; have HG := Aside0.mk HBIG.out.2.2.2.2.2.1; have HIX := Aside0.mk HBIG.out.2.2.2.2.2.2; clear HBIG
      have HRE := Aside0.mk (HRX.out m2 cn2 r HRR.out)
      have HXN := Aside0.mk (show (r.getD []).length ≤ s.names.length ∧ ((r.getD []).length = s.names.length ∨ r = none) by
       cases r with
       | none => exact ⟨Nat.zero_le _, .inr rfl⟩
       | some xs => have := HLN.out xs m cn vs fb (by rw [HRR.out]); have h2 := Q.out.2; simp only [Option.getD_some]; exact ⟨by omega, .inl (by omega)⟩)
      clear HRX HRR
      obtain ⟨xs, hxs⟩ : ∃ xs, r.getD [] = xs := ⟨_, rfl⟩
      rw [hxs] at HC HXN HIX ⊢
      have HXS := Aside0.mk hxs
      clear hxs
      have hxm : xs.length ≤ 9223372036854775807 := HC.out.2.1
      have hxn := HXN.out.1
      have hqq := HQQ.out
      go_wp2_with fail
      go_loopg [12] xs.length (fun gg s12 wr => ∃ (kk : Nat) (f2 : Vars), kk ≤ xs.length ∧ xs.length - kk ≤ gg ∧ s12 = .int .i64 kk ∧ Aside0 (FAtR w0 wr g ma (some xad) c l N m2 tr cn2 gf base bv (q + kk) f2 false) ∧ Aside0 (Turned (DV g ma gf bv w) w wr) ∧ Aside0 (wr.heap[gs]? = some (.cells #[.int .i64 s.op, .string s.name, .int .i64 s.pos, .int .i64 s.fn, .slice sA4 (s.names).length sc4, .int .i64 s.e.f0, .string s.e.f1, .int .i64 s.e.f2, .slice sA8 (s.e.f3).length sc8, .slice sA9 (s.e.f4).length sc9, .slice sA6 (s.args).length sc6, .slice sA7 (s.arms).length sc7] 41 (0, 0))) ∧ Aside0 ((Kd.int .i64).C wr B xs.length xs) ∧ Aside0 (∀ ad, B = some ad → w.heap.size ≤ ad.block ∧ ¬ IsSl wr ad.block) ∧ Aside0 (setAll (s.names.drop kk) (xs.drop kk) f2 = setAll s.names xs f))
      case atStart => exact ⟨0, f, Nat.zero_le _, by omega, rfl, HF, HT, BS, HC, HG, ⟨rfl⟩⟩
      case round =>
       clear HF HT BS HC HG
       obtain ⟨kk, f2, hkk, hgk, rfl, HF, HT, BS, HC, HG, HS⟩ := hrel
       by_cases hlt : kk < xs.length
       ·have hltz : (kk : Int) < (xs.length : Int) := by omega
        have hltn : (kk : Int) < (s.names.length : Int) := by omega
        have HS1 := Aside0.mk (show setAll (s.names.drop (kk + 1)) (xs.drop (kk + 1)) (mupd f2 (s.names.getD kk ⟨#[]⟩) (xs.getD kk (0 : Int), true)) = setAll s.names xs f by rw [← setAll_cons f2 s.names xs kk (by omega) hlt]; exact HS.out)
        clear HS
        have hvi := HIX.out _ (getD_mem hlt (0 : Int))
        have hlb := fun ad (e : B = some ad) => intsLt HC.out ad e (fun e => by rw [e] at hlt; simp at hlt)
        obtain ⟨nad, ncs, rfl, _, nK, ncc⟩ := Kd.C_get HC.out (0 : Int) (kk : Int) (by omega) (by omega)
        obtain rfl := nK
        have nx0 := ncc 0 _ rfl
        simp only [show (Kd.int .i64).sz = 1 from rfl, Nat.mul_one, Nat.add_zero, Int.toNat_natCast] at nx0
        clear ncc
        generalize Yv0 : xs.getD kk (0 : Int) = v at nx0 hvi
        have Yv := Aside0.mk Yv0; clear Yv0
        obtain ⟨tad, tcs, hte, _, tK, tcc⟩ := Kd.C_get sG4.out (⟨#[]⟩ : ByteArray) (kk : Int) (by omega) (by omega)
        subst hte
        obtain rfl := tK
        have tx0 := (HF.out.run.below.cell (World.block_lt_of_cell? w0 _ (tcc 0 _ rfl))).trans (tcc 0 _ rfl)
        simp only [show Kd.string.sz = 1 from rfl, Nat.mul_one, Nat.add_zero, Int.toNat_natCast] at tx0
        clear tcc
        generalize Ynm0 : s.names.getD kk (⟨#[]⟩ : ByteArray) = nm at tx0
        have Ynm := Aside0.mk Ynm0; clear Ynm0
        rw [Yv.out, Ynm.out] at HS1
        have cs_4 := (blk_cell BS.out 4).trans rfl
        have hset := set_calls (HF.out.below' (below_drew1 (Below.refl _ _))) nm (v, true) hvi (by omega)
        unfold encR at hset
        simp only [] at hset
        go_wp2_with fail
        go_still_tail 11, (by kernel_rfl)
        change wpList _ _ _ _ _ (World.drew wr)
        go_wp2_with fail
        refine hset.mono ?_
        rintro e w7 ⟨rfl, hF7, ht7⟩
        have HT7 := Aside0.mk (DV_set (g := g) (ma := ma) ht7)
        have HGX := HG.out
        have hgf := NGF.out
        have hNS : ∀ ad, (some nad : Option Addr) = some ad → ¬ SV (World.drew wr) gf bv ad.block := fun ad e => by
         have h1 := hgf
         intro hs
         have h2 := HGX ad e
         rcases hs with hs | ⟨_, hs⟩
         ·have h3 := h2.1; omega
         ·exact h2.2 hs
        replace HG := Aside0.mk (fun ad (e : (some nad : Option Addr) = some ad) => And.intro (HGX ad e).1 (fun (hs : IsSl w7 ad.block) => (HGX ad e).2 (by
         obtain ⟨cells, hc⟩ := hs
         exact ⟨cells, (ht7.block ad.block (hlb ad e) (hNS ad e)).symm.trans hc⟩)))
        replace HC := Aside0.mk (ints_block (Kd.C_below HC.out (below_drew1 (Below.refl _ _))) (fun ad e _ => ht7.block ad.block (hlb ad e) (hNS ad e)))
        replace HF := Aside0.mk hF7
        replace BS := Aside0.mk (DV_blk (DV_set (g := g) (ma := ma) ht7) (blk_drew BS.out) NS.out.1 NS.out.2.1 NS.out.2.2 (by decide))
        replace HT := Aside0.mk (DV.trans HT.out.drew (DV_set ht7))
        clear hset cs_4 tx0 nx0 hF7 ht7 HGX hNS hgf hlb
        go_wp2_with fail
        go_roundg (xs.length - (kk + 1))
        case measure => omega
        case rel => exact ⟨kk + 1, mupd f2 nm (v, true), by omega, by omega, by go_num, HF, HT, BS, HC, HG, HS1⟩
       ·obtain rfl : kk = xs.length := by omega
        have hltz : ¬ ((xs.length : Int) < (xs.length : Int)) := by omega
        cases r with
        | none =>
         have HRN := Aside0.mk (show R = (m2, cn2, none) from HRE.out)
         clear HS HRE
         go_wp2_with fail
         go_ret
         exact rdo_no HRN.out HF.out.run HF.out.inm HT.out
        | some xs' =>
         obtain rfl : xs' = xs := HXS.out
         have HFE := Aside0.mk (show R = (m2, cn2, some f2) by have h := HS.out; rw [List.drop_length, List.drop_of_length_le (by have := HXN.out.2; (rcases this with e | e; (focus omega)); cases e)] at h; rw [HRE.out]; show (m2, cn2, some (setAll s.names xs' f)) = (m2, cn2, some f2); rw [← h]; first | rfl | (unfold setAll; rfl))
         clear HS HRE
         go_wp2_with fail
         go_ret
         exact rdo_yes HFE.out HF.out (by omega) HT.out
  ·have d0 : ((x.params.length : Int) != (s.args.length : Int)) = false := by rw [q0]; exact bne_self_eq_false _
   have d1 : ((x.results.length : Int) != (s.names.length : Int)) = true := bne_iff_ne.2 (by omega)
   have HRN := Aside0.mk (show R = (m, cn, none) by rw [← HR.out]; exact stepX_no (by rw [Yx.out]; exact fun hh => q1 hh.2))
   clear q0 q1 HR
   have cx_0 := (blk_cell BX.out 0).trans rfl
   have cx_1 := (blk_cell BX.out 1).trans rfl
   have cs_4 := (blk_cell BS.out 4).trans rfl
   have cs_10 := (blk_cell BS.out 10).trans rfl
   go_wp2_with fail
   go_ret
   exact rdo_no HRN.out HF.out.run HF.out.inm (DV_below HB.out)
 ·have d0 : ((x.params.length : Int) != (s.args.length : Int)) = true := bne_iff_ne.2 (by omega)
  have HRN := Aside0.mk (show R = (m, cn, none) by rw [← HR.out]; exact stepX_no (by rw [Yx.out]; exact fun hh => q0 hh.1))
  clear q0 HR
  have cx_0 := (blk_cell BX.out 0).trans rfl
  have cx_1 := (blk_cell BX.out 1).trans rfl
  have cs_4 := (blk_cell BS.out 4).trans rfl
  have cs_10 := (blk_cell BS.out 10).trans rfl
  go_wp2_with fail
  go_ret
  exact rdo_no HRN.out HF.out.run HF.out.inm (DV_below HB.out)
end Go.Proofs.YticndoihkfbpoaaGreatDoor
