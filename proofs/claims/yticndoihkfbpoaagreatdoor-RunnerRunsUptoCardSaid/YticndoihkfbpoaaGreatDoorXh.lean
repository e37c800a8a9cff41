/- Package runner: step: a function does an instant. -/
import Derived.Test.YticndoihkfbpoaaGreatDoorXf
namespace Go.Proofs.YticndoihkfbpoaaGreatDoor
open Go Go.RowKit Go.Lib Go.Proofs.YticndoihkfbpoaaGreatDoorW.PrintWords Go.Proofs.YticndoihkfbpoaaGreatDoor.PScope
set_option maxRecDepth 100000
set_option linter.unusedSimpArgs false
set_option linter.unusedVariables false
attribute [local irreducible] wpStill
def argP (al : Bool) (vs : List Int) (r : Option (Bool × List Int)) : Option (Bool × List Int) := r.map (fun p => (al && p.1, vs ++ p.2))
theorem argP_start (r : Option (Bool × List Int)) : argP true [] r = r := by
 unfold argP
 cases r <;> simp
theorem argP_none {m : List Cl} {base : Int} {f : Vars} {e : S38} {r : List S38} {al : Bool} {vs : List Int} (h : valE m base f e = none) : argP al vs (argsV m base f (e :: r)) = none := by
 unfold argP argsV
 rw [h]; rfl
theorem argP_some {m : List Cl} {base : Int} {f : Vars} {e : S38} {r : List S38} {al : Bool} {vs : List Int} {c : Cl} (h : valE m base f e = some c) : argP al vs (argsV m base f (e :: r)) = argP (al && c.2) (vs ++ [c.1]) (argsV m base f r) := by
 unfold argP
 rw [argsV, h]
 cases argsV m base f r with
 | none => rfl
 | some p => simp [Bool.and_assoc]
theorem argP_end {m : List Cl} {base : Int} {f : Vars} {al : Bool} {vs : List Int} : argP al vs (argsV m base f []) = some (al, vs) := by
 unfold argP argsV
 simp
section
variable {I : Inst} {l : List FF} {N : Nat} {base pos fn : Int} {names : List ByteArray} {args : List S38} {f : Vars} {m : List Cl} {cn : Int}
theorem stepX_no (h : ¬ ((l.getD fn.toNat zFF).params.length = args.length ∧ (l.getD fn.toNat zFF).results.length = names.length)) : stepX I l N base pos fn names args f m cn = (m, cn, none) := if_neg h
theorem stepX_none (h : argsV m base f args = none) : stepX I l N base pos fn names args f m cn = (m, cn, none) := by
 unfold stepX
 rw [h]
 split <;> rfl
theorem stepX_false {vs : List Int} (h : argsV m base f args = some (false, vs)) : stepX I l N base pos fn names args f m cn = (m, cn, none) := by
 unfold stepX
 rw [h]
 split <;> rfl
theorem stepX_go {vs : List Int} (hc : (l.getD fn.toNat zFF).params.length = args.length ∧ (l.getD fn.toNat zFF).results.length = names.length) (h : argsV m base f args = some (true, vs)) :
  stepX I l N base pos fn names args f m cn = ((I fn (furV N base pos) vs m cn).1, (I fn (furV N base pos) vs m cn).2.1, (I fn (furV N base pos) vs m cn).2.2.map (fun outs => setAll names outs f)) := by
 unfold stepX
 rw [if_pos hc, h]
theorem stepX_out {vs : List Int} {m2 : List Cl} {cn2 : Int} {r : Option (List Int)} (hc : (l.getD fn.toNat zFF).params.length = args.length ∧ (l.getD fn.toNat zFF).results.length = names.length) (h : argsV m base f args = some (true, vs)) (hr : I fn (furV N base pos) vs m cn = (m2, cn2, r)) :
  stepX I l N base pos fn names args f m cn = (m2, cn2, r.map (fun outs => setAll names outs f)) := by
 rw [stepX_go hc h, hr]
theorem argsV_length {m : List Cl} {base : Int} {f : Vars} : ∀ {args : List S38} {al : Bool} {vs : List Int}, argsV m base f args = some (al, vs) → vs.length = args.length
 | [], al, vs, h => by unfold argsV at h; injection h with h; injection h with h1 h2; subst h2; rfl
 | e :: r, al, vs, h => by
  unfold argsV at h
  cases hv : valE m base f e with
  | none => rw [hv] at h; cases h
  | some c =>
   rw [hv] at h
   cases hr : argsV m base f r with
   | none => rw [hr] at h; cases h
   | some p =>
    rw [hr] at h
    injection h with h
    injection h with h1 h2
    subst h2
    simp [argsV_length (al := p.1) (vs := p.2) hr]
end
theorem setAll_cons (f : Vars) (names : List ByteArray) (xs : List Int) (k : Nat) (hn : k < names.length) (hx : k < xs.length) : setAll (names.drop k) (xs.drop k) f = setAll (names.drop (k + 1)) (xs.drop (k + 1)) (mupd f (names.getD k ⟨#[]⟩) (xs.getD k 0, true)) := by
 rw [drop_getD names k hn ⟨#[]⟩, drop_getD xs k hx 0, setAll]
theorem info_int64 : (Tryz.prog.info? 2).map (fun i => (i.zero, i.size, i.bytes)) = some (some (.int .i64 0), 1, 8) := by kernel_rfl
set_option maxHeartbeats 8000000 in
theorem step_calls (w0 : World) (g : Nat) (ma : Addr) (A : Option Addr) (c : Nat) (l : List FF) (N : Nat) (tr : Bool) (gf : Nat) (base : Int) (mp : Nat) (I : Inst) (d : Nat) (hI : ISays w0 g ma A c l N tr d I)
  (hIL : ∀ (k fb : Int) (ins : List Int) (m : List Cl) (cn : Int) (xs : List Int), (I k fb ins m cn).2.2 = some xs → xs.length = (l.getD k.toNat zFF).results.length) (hC : kFF.C w0 A l.length l) (hfw : ∀ f ∈ l, f.params.length ≤ 8796093022208) (hd : (d : Int) ≤ (l.length : Int)) : StepSays w0 g ma A c l N tr gf base mp I d := by
 intro s cs f m cn w h3 hb hK h
 have hfn := badS_fn hb h3
 have hf0 := hfn.1
 have hf1 : s.fn < (l.length : Int) := by omega
 have HFD := Aside0.mk hfn.2
 obtain ⟨sA4, sc4, sA8, sc8, sA9, sc9, sA6, sc6, sA7, sc7, rfl, sl4, sg4, sl8, sg8, sl9, sg9, sl6, sg6, sl7, sg7⟩ := kFS_openV hK
 clear hfn hb h3 hK
 have HI := Aside0.mk hI; have HIL := Aside0.mk hIL; have HC := Aside0.mk hC; have HFW := Aside0.mk hfw
 clear hI hIL hC hfw hd
 have sL4 := Aside0.mk sl4; have sG4 := Aside0.mk sg4; clear sl4 sg4
 have sL8 := Aside0.mk sl8; have sG8 := Aside0.mk sg8; clear sl8 sg8
 have sL9 := Aside0.mk sl9; have sG9 := Aside0.mk sg9; clear sl9 sg9
 have sL6 := Aside0.mk sl6; have sG6 := Aside0.mk sg6; clear sl6 sg6
 have sL7 := Aside0.mk sl7; have sG7 := Aside0.mk sg7; clear sl7 sg7
 obtain ⟨R, hR⟩ : ∃ R, stepX I l N base s.pos s.fn s.names s.args f m cn = R := ⟨_, rfl⟩
 rw [hR]
 have HR := Aside0.mk hR
 clear hR
 have hBA := below_alloc (Below.refl w.heap.size w) (.cells #[.int .i64 s.op, .string s.name, .int .i64 s.pos, .int .i64 s.fn, .slice sA4 (s.names).length sc4, .int .i64 s.e.f0, .string s.e.f1, .int .i64 s.e.f2, .slice sA8 (s.e.f3).length sc8, .slice sA9 (s.e.f4).length sc9, .slice sA6 (s.args).length sc6, .slice sA7 (s.arms).length sc7] 41)
 have BS := Aside0.mk (blk_new w (.cells #[.int .i64 s.op, .string s.name, .int .i64 s.pos, .int .i64 s.fn, .slice sA4 (s.names).length sc4, .int .i64 s.e.f0, .string s.e.f1, .int .i64 s.e.f2, .slice sA8 (s.e.f3).length sc8, .slice sA9 (s.e.f4).length sc9, .slice sA6 (s.args).length sc6, .slice sA7 (s.arms).length sc7] 41))
 have NS := Aside0.mk (show w.heap.size ≠ g ∧ w.heap.size ≠ ma.block ∧ w.heap.size ≠ mp from ⟨fun e => by have := blk_lt h.run.blk; omega, fun e => by have := blk_lt h.run.mem.2; omega, fun e => by have := h.vars.lt; omega⟩)
 have HF := Aside0.mk (h.below' hBA)
 have HB := Aside0.mk hBA
 clear h hBA
 go_enter Tryz.func109, Tryz.ntmps109
 go_wp2_with fail
 obtain ⟨gs, hq⟩ : ∃ gs, w.heap.size = gs := ⟨_, rfl⟩
 rw [hq] at BS NS ⊢
 have HQ := Aside0.mk hq; clear hq
 generalize w.alloc (.cells #[.int .i64 s.op, .string s.name, .int .i64 s.pos, .int .i64 s.fn, .slice sA4 (s.names).length sc4, .int .i64 s.e.f0, .string s.e.f1, .int .i64 s.e.f2, .slice sA8 (s.e.f3).length sc8, .slice sA9 (s.e.f4).length sc9, .slice sA6 (s.args).length sc6, .slice sA7 (s.arms).length sc7] 41) = w1 at HF HB BS ⊢
 have x0 := (blk_cell HF.out.frm 0).trans rfl
 have y0 := (blk_cell HF.out.run.blk 0).trans rfl
 have cs_3 := (blk_cell BS.out 3).trans rfl
 obtain ⟨xad, xcs, rfl, _, xK, xcc⟩ := Kd.C_get HC.out zFF s.fn (by omega) (by omega)
 have xK' := xK
 obtain ⟨xA0, xc0, xA1, xc1, xA3, xc3, xA4, xc4, xA5, xc5, rfl, xl0, xg0, xl1, xg1, xl3, xg3, xl4, xg4, xl5, xg5⟩ := kFF_open6 xK'
 have xx0 := (HF.out.run.below.cell (World.block_lt_of_cell? w0 _ (xcc 0 _ rfl))).trans (xcc 0 _ rfl)
 have xx1 := (HF.out.run.below.cell (World.block_lt_of_cell? w0 _ (xcc 1 _ rfl))).trans (xcc 1 _ rfl)
 have xx2 := (HF.out.run.below.cell (World.block_lt_of_cell? w0 _ (xcc 2 _ rfl))).trans (xcc 2 _ rfl)
 have xx3 := (HF.out.run.below.cell (World.block_lt_of_cell? w0 _ (xcc 3 _ rfl))).trans (xcc 3 _ rfl)
 have xx4 := (HF.out.run.below.cell (World.block_lt_of_cell? w0 _ (xcc 4 _ rfl))).trans (xcc 4 _ rfl)
 have xx5 := (HF.out.run.below.cell (World.block_lt_of_cell? w0 _ (xcc 5 _ rfl))).trans (xcc 5 _ rfl)
 rw [show (kFF).sz = 6 from rfl, Nat.add_zero] at xx0
 rw [show (kFF).sz = 6 from rfl, add_field _ _ 1 (by omega)] at xx1
 rw [show (kFF).sz = 6 from rfl, add_field _ _ 2 (by omega)] at xx2
 rw [show (kFF).sz = 6 from rfl, add_field _ _ 3 (by omega)] at xx3
 rw [show (kFF).sz = 6 from rfl, add_field _ _ 4 (by omega)] at xx4
 rw [show (kFF).sz = 6 from rfl, add_field _ _ 5 (by omega)] at xx5
 clear xcc
 generalize Yx0 : l.getD s.fn.toNat zFF = x at xx0 xx1 xx2 xx3 xx4 xx5 xK xl0 xg0 xl1 xg1 xl3 xg3 xl4 xg4 xl5 xg5
 have Yx := Aside0.mk Yx0; clear Yx0
 have xL0 := Aside0.mk xl0; have xG0 := Aside0.mk xg0; clear xl0 xg0
 have xL1 := Aside0.mk xl1; have xG1 := Aside0.mk xg1; clear xl1 xg1
 have xL3 := Aside0.mk xl3; have xG3 := Aside0.mk xg3; clear xl3 xg3
 have xL4 := Aside0.mk xl4; have xG4 := Aside0.mk xg4; clear xl4 xg4
 have xL5 := Aside0.mk xl5; have xG5 := Aside0.mk xg5; clear xl5 xg5
 have XK := Aside0.mk xK
 clear xK
 have HXP := Aside0.mk (HFW.out x (by rw [← Yx.out]; exact getD_mem (by omega) zFF))
 have HLN := Aside0.mk (fun (ks : List Int) (m : List Cl) (cn : Int) (vs : List Int) (fb : Int) (h : (I s.fn fb vs m cn).2.2 = some ks) => show ks.length = x.results.length by rw [← Yx.out]; exact HIL.out _ _ _ _ _ _ h)
 have x0a := fun (ob : Obj) => cell?_alloc_some ob x0
 have y0a := fun (ob : Obj) => cell?_alloc_some ob y0
 have cs_3a := fun (ob : Obj) => cell?_alloc_some ob cs_3
 have xx0a := fun (ob : Obj) => cell?_alloc_some ob xx0
 have xx1a := fun (ob : Obj) => cell?_alloc_some ob xx1
 have xx2a := fun (ob : Obj) => cell?_alloc_some ob xx2
 have xx3a := fun (ob : Obj) => cell?_alloc_some ob xx3
 have xx4a := fun (ob : Obj) => cell?_alloc_some ob xx4
 have xx5a := fun (ob : Obj) => cell?_alloc_some ob xx5
 go_cut [4] from 12 to 22 (fun s4 wx => ∃ gx, s4 = .pointer (some ⟨gx, 0, none⟩) ∧ Aside0 (FAt w0 wx g ma (some xad) c l N m tr cn gf base mp f) ∧ Aside0 (Below w.heap.size w wx) ∧ Aside0 (wx.heap[gs]? = some (.cells #[.int .i64 s.op, .string s.name, .int .i64 s.pos, .int .i64 s.fn, .slice sA4 (s.names).length sc4, .int .i64 s.e.f0, .string s.e.f1, .int .i64 s.e.f2, .slice sA8 (s.e.f3).length sc8, .slice sA9 (s.e.f4).length sc9, .slice sA6 (s.args).length sc6, .slice sA7 (s.arms).length sc7] 41 (0, 0))) ∧ Aside0 (wx.heap[gx]? = some (.cells #[.slice xA0 (x.params).length xc0, .slice xA1 (x.results).length xc1, .int .i64 x.cells, .slice xA3 (x.flags).length xc3, .slice xA4 (x.parts).length xc4, .slice xA5 (x.body).length xc5] 35 (0, 0))))
 case first =>
  have HBA := below_drew1 (below_alloc (Below.refl w1.heap.size w1) (.cells #[.slice xA0 (x.params).length xc0, .slice xA1 (x.results).length xc1, .int .i64 x.cells, .slice xA3 (x.flags).length xc3, .slice xA4 (x.parts).length xc4, .slice xA5 (x.body).length xc5] 35))
  have HF4 := Aside0.mk (HF.out.below' HBA)
  have HB4 := Aside0.mk (below_step HB.out HBA)
  have BS4 := Aside0.mk (below_blk BS.out HBA)
  have BX4 := Aside0.mk (blk_drew (blk_new w1 (.cells #[.slice xA0 (x.params).length xc0, .slice xA1 (x.results).length xc1, .int .i64 x.cells, .slice xA3 (x.flags).length xc3, .slice xA4 (x.parts).length xc4, .slice xA5 (x.body).length xc5] 35)))
  clear HBA HF HB BS
  go_region
  all_goals
   go_wp2_with fail
   go_meet
   case rel => exact ⟨_, rfl, HF4, HB4, BS4, BX4⟩
 case rest =>
 clear HF HB BS x0 x0a y0 y0a cs_3 cs_3a xx0 xx0a xx1 xx1a xx2 xx2a xx3 xx3a xx4 xx4a xx5 xx5a
 obtain ⟨gx, rfl, HF, HB, BS, BX⟩ := hcut
 by_cases q0 : x.params.length = s.args.length
 ·by_cases q1 : x.results.length = s.names.length
  ·have d0 : ((x.params.length : Int) == (s.args.length : Int)) = true := by rw [q0]; exact beq_self_eq_true _
   have d1 : ((x.results.length : Int) == (s.names.length : Int)) = true := by rw [q1]; exact beq_self_eq_true _
   have Q := Aside0.mk (And.intro q0 q1)
   clear q0 q1
   have cx_0 := (blk_cell BX.out 0).trans rfl
   have cx_1 := (blk_cell BX.out 1).trans rfl
   have cs_4 := (blk_cell BS.out 4).trans rfl
   have cs_10 := (blk_cell BS.out 10).trans rfl
   go_wp2_with fail
   refine (must_t _).mono ?_
   rintro e w5 ⟨rfl, rfl⟩
   clear d0 d1 cx_0 cx_1 cs_4 cs_10
   have cs_10 := (blk_cell BS.out 10).trans rfl
   have QX := Aside0.mk (show (l.getD s.fn.toNat zFF).params.length = s.args.length ∧ (l.getD s.fn.toNat zFF).results.length = s.names.length by rw [Yx.out]; exact Q.out)
   have HAM := Aside0.mk (show s.args.length ≤ 8796093022208 by have := Q.out.1; have := HXP.out; omega)
   have HU := Aside0.mk Tryz.underlying49
   have HW := Aside0.mk (Below.refl w5.heap.size w5)
   have HRW := Aside0.mk (Kd.R_nil (Kd.int .i64) 2 w5 w5.heap.size (fun _ => True))
   go_wp2_with fail
   clear cs_10
   have haml : s.args.length ≤ 8796093022208 := HAM.out
   go_loopg [5, 6, 43] s.args.length (fun gg s5 s6 s43 wr => ∃ (kk : Nat) (v5 : Value) (al : Bool) (vs : List Int), kk ≤ s.args.length ∧ s.args.length - kk ≤ gg ∧ s43 = .int .i64 kk ∧ s5 = v5 ∧ s6 = .bool al ∧ Aside0 (Below w5.heap.size w5 wr) ∧ Aside0 ((Kd.int .i64).R 2 wr w5.heap.size (fun _ => True) v5 vs) ∧ Aside0 (vs.length = kk) ∧ Aside0 (argP al vs (argsV m base f (s.args.drop kk)) = argsV m base f s.args))
   case atStart => exact ⟨0, _, true, [], Nat.zero_le _, by omega, rfl, rfl, rfl, HW, HRW, ⟨rfl⟩, ⟨argP_start _⟩⟩
   case round =>
    clear HW HRW
    obtain ⟨kk, v5, al, vs, hkk, hgk, rfl, rfl, rfl, HW, HRW, HVL, HP⟩ := hrel
    obtain ⟨A5, c5, rfl⟩ := Kd.R_slice HRW.out
    by_cases hlt : kk < s.args.length
    ·have hltz : (kk : Int) < (s.args.length : Int) := by omega
     have HP1 := Aside0.mk (show argP al vs (argsV m base f (s.args.getD kk z38 :: s.args.drop (kk + 1))) = argsV m base f s.args by rw [← drop_getD s.args kk hlt z38]; exact HP.out)
     clear HP
     obtain ⟨y, hy⟩ : ∃ y, s.args.getD kk z38 = y := ⟨_, rfl⟩
     rw [hy] at HP1
     have HFW := Aside0.mk (HF.out.below' HW.out)
     obtain ⟨yad, yA3, yc3, yA4, yc4, hA6, yK, yx0, yx1, yx2, yx3, yx4⟩ := kid_cells HFW.out.run.below sG6.out kk hlt y hy
     subst hA6
     have YK := Aside0.mk yK
     clear yK hy HFW
     have HV := Aside0.mk (value_calls (w0 := w0) (g := g) (ma := ma) (A := some xad) (c := c) (l := l) (N := N) (m := m) (tr := tr) (cn := cn) (gf := gf) (base := base) (mp := mp) (f := f) y)
     go_wp2_with ((with_reducible refine gate_store (t := 38) (p := 8) rfl ?_); refine store_whole rfl rfl 38 _ _ rfl wr.heap.size _ 38 rfl (blk_new _ _) _ rfl rfl rfl (by simp [Value.oneCell']) ?_; intro w2 hb2 hg2; have HBA := Aside0.mk (below_as (Below.refl wr.heap.size wr) hg2); replace HW := Aside0.mk (below_step HW.out HBA.out); replace HRW := Aside0.mk (Kd.R_below HRW.out HBA.out); obtain ⟨gy, hq_⟩ : ∃ g_, g_ = wr.heap.size := ⟨_, rfl⟩; rw [← hq_] at hb2; rw [← hq_]; have BY := Aside0.mk hb2; clear hb2 hg2 hq_ HBA; have cy_0 := (blk_cell BY.out 0).trans rfl; have cy_1 := (blk_cell BY.out 1).trans rfl; have cy_2 := (blk_cell BY.out 2).trans rfl; have cy_3 := (blk_cell BY.out 3).trans rfl; have cy_4 := (blk_cell BY.out 4).trans rfl)
     clear yx0 yx1 yx2 yx3 yx4
     refine (HV.out _ _ (HF.out.below' HW.out) YK.out).mono ?_
     intro e w6 hp
     unfold ValPost at hp
     rcases hv : valE m base f y with _ | ⟨v, on⟩
     ·rw [hv] at hp
      obtain ⟨rfl, hb⟩ := hp
      have HRN := Aside0.mk (show R = (m, cn, none) by rw [← HR.out]; exact stepX_none (by rw [← HP1.out]; exact argP_none hv))
      have HB6 := Aside0.mk (below_step HW.out hb)
      clear hb hv HP1 HR HV cy_0 cy_1 cy_2 cy_3 cy_4
      go_wp2_with fail
      exact ⟨rfl, doPost_trap HRN.out (HF.out.below' HB6.out).run (T3_below (below_step HB.out HB6.out))⟩
     ·rw [hv] at hp
      obtain ⟨rfl, hb⟩ := hp
      have HP2 := Aside0.mk (show argP (al && on) (vs ++ [v]) (argsV m base f (s.args.drop (kk + 1))) = argsV m base f s.args by rw [← HP1.out, argP_some hv])
      replace HW := Aside0.mk (below_step HW.out hb)
      replace HRW := Aside0.mk (Kd.R_below HRW.out hb)
      have HVL1 := Aside0.mk (show (vs ++ [v]).length = kk + 1 by have := HVL.out; simp; omega)
      clear hb hv HP1 HV cy_0 cy_1 cy_2 cy_3 cy_4 BY
      unfold encC
      simp only []
      cases al with
      | false =>
       go_wp2_with (first | ((with_reducible refine gate_store (t := 91) (p := 9) rfl ?_); refine store_whole rfl rfl 91 _ _ rfl w6.heap.size _ 91 rfl (blk_new _ _) _ rfl rfl rfl (by simp [Value.oneCell']) ?_; intro w2 hb2 hg2; have HBA := Aside0.mk (below_as (Below.refl w6.heap.size w6) hg2); replace HW := Aside0.mk (below_step HW.out HBA.out); replace HRW := Aside0.mk (Kd.R_below HRW.out HBA.out); obtain ⟨gc, hq_⟩ : ∃ g_, g_ = w6.heap.size := ⟨_, rfl⟩; rw [← hq_] at hb2; rw [← hq_]; have BC := Aside0.mk hb2; clear hb2 hg2 hq_ HBA; have cc_0 := (blk_cell BC.out 0).trans rfl; have cc_1 := (blk_cell BC.out 1).trans rfl) | (at_builtin; refine Kd.R_append (Kd.int .i64) (w0 := w5) w5.heap.size rfl (.tmp 55) (.tmp 58) 49 2 (.int .i64 0) 8 rfl HU.out info_int64 rfl (by decide) (by omega) (.slice A5 vs.length c5) vs v [.int .i64 v] (fun _ => True) (fun _ => False) rfl rfl (show (Kd.int .i64).M _ _ _ v [.int .i64 v] from rfl) (fun k hk => hk.elim) (fun _ _ => trivial) HRW.out HW.out HW.out.size (by have := HVL.out; omega) ?_; intro v1 w7 hr7 hb7 hg7 hat7; have HRW7 := Aside0.mk hr7; have HW7 := Aside0.mk hb7; clear hr7 hg7 hat7 hb7 HRW HW))
       go_roundg (s.args.length - (kk + 1))
       case measure => omega
       case rel => exact ⟨kk + 1, v1, false, vs ++ [v], by omega, by omega, by go_num, rfl, rfl, HW7, HRW7, HVL1, HP2⟩
      | true =>
       go_wp2_with (first | ((with_reducible refine gate_store (t := 91) (p := 9) rfl ?_); refine store_whole rfl rfl 91 _ _ rfl w6.heap.size _ 91 rfl (blk_new _ _) _ rfl rfl rfl (by simp [Value.oneCell']) ?_; intro w2 hb2 hg2; have HBA := Aside0.mk (below_as (Below.refl w6.heap.size w6) hg2); replace HW := Aside0.mk (below_step HW.out HBA.out); replace HRW := Aside0.mk (Kd.R_below HRW.out HBA.out); obtain ⟨gc, hq_⟩ : ∃ g_, g_ = w6.heap.size := ⟨_, rfl⟩; rw [← hq_] at hb2; rw [← hq_]; have BC := Aside0.mk hb2; clear hb2 hg2 hq_ HBA; have cc_0 := (blk_cell BC.out 0).trans rfl; have cc_1 := (blk_cell BC.out 1).trans rfl) | (at_builtin; refine Kd.R_append (Kd.int .i64) (w0 := w5) w5.heap.size rfl (.tmp 55) (.tmp 58) 49 2 (.int .i64 0) 8 rfl HU.out info_int64 rfl (by decide) (by omega) (.slice A5 vs.length c5) vs v [.int .i64 v] (fun _ => True) (fun _ => False) rfl rfl (show (Kd.int .i64).M _ _ _ v [.int .i64 v] from rfl) (fun k hk => hk.elim) (fun _ _ => trivial) HRW.out HW.out HW.out.size (by have := HVL.out; omega) ?_; intro v1 w7 hr7 hb7 hg7 hat7; have HRW7 := Aside0.mk hr7; have HW7 := Aside0.mk hb7; clear hr7 hg7 hat7 hb7 HRW HW))
       go_roundg (s.args.length - (kk + 1))
       case measure => omega
       case rel => exact ⟨kk + 1, v1, on, vs ++ [v], by omega, by omega, by go_num, rfl, rfl, HW7, HRW7, HVL1, HP2⟩
    ·obtain rfl : kk = s.args.length := by omega
     have HAV := Aside0.mk (show argsV m base f s.args = some (al, vs) by rw [← HP.out, List.drop_length]; exact argP_end)
     clear HP hgk hkk hlt
     cases al with
     | false =>
      have HRN := Aside0.mk (show R = (m, cn, none) by rw [← HR.out]; exact stepX_false HAV.out)
      clear HR HRW
      go_wp2_with fail
      refine (must_f _).mono ?_
      rintro e w9 ⟨rfl, rfl⟩
      go_wp2_with fail
      exact ⟨rfl, doPost_trap HRN.out (HF.out.below' HW.out).run (T3_below (below_step HB.out HW.out))⟩
     | true =>
      obtain ⟨A6, c6, hv6, _, hC6⟩ := Kd.R_reads HRW.out
      injection hv6 with hv7 hv8 hv9
      subst hv7
      subst hv9
      have HC6 := Aside0.mk hC6
      clear hC6 hv8 HRW
      replace HF := Aside0.mk (HF.out.below' HW.out)
      replace HB := Aside0.mk (below_step HB.out HW.out)
      replace BS := Aside0.mk (below_blk BS.out HW.out)
      replace BX := Aside0.mk (below_blk BX.out HW.out)
      clear HW
      have HVN := Aside0.mk (show vs.length = (l.getD s.fn.toNat zFF).params.length by rw [argsV_length HAV.out]; exact QX.out.1.symm)
      go_wp2_with fail
      refine (must_t _).mono ?_
      rintro e w6 ⟨rfl, rfl⟩
      go_wp2_with fail
      have x0 := (blk_cell HF.out.frm 0).trans rfl
      have cs_2 := (blk_cell BS.out 2).trans rfl
      have cx_0 := (blk_cell BX.out 0).trans rfl
      have cx_1 := (blk_cell BX.out 1).trans rfl
      have cx_2 := (blk_cell BX.out 2).trans rfl
      have cx_3 := (blk_cell BX.out 3).trans rfl
      have cx_4 := (blk_cell BX.out 4).trans rfl
      have cx_5 := (blk_cell BX.out 5).trans rfl
      obtain ⟨fb, hfb⟩ : ∃ fb, furV N base s.pos = fb := ⟨_, rfl⟩
      have HFB := Aside0.mk (show 0 ≤ fb ∧ fb ≤ (N : Int) from hfb ▸ furV_in HF.out.b0 HF.out.b1)
      have HFU := Aside0.mk (fun (W : World) (hW : FAt w0 W g ma (some xad) c l N m tr cn gf base mp f) => further_calls hW s.pos)
      rw [hfb] at HFU
      have HIN := Aside0.mk (fun (W : World) (hR : RAt w0 W g ma (some xad) c l N m tr cn) (hV : (Kd.int .i64).C W A5 vs.length vs) => HI.out s.fn fb vs m cn W #[.slice xA0 (x.params).length xc0, .slice xA1 (x.results).length xc1, .int .i64 x.cells, .slice xA3 (x.flags).length xc3, .slice xA4 (x.parts).length xc4, .slice xA5 (x.body).length xc5].toList A5 c5 hf0 HFD.out HFB.out.1 HFB.out.2 HVN.out hR hV (by rw [Yx.out]; exact XK.out))
      have HRX := Aside0.mk (fun (m2 : List Cl) (cn2 : Int) (r : Option (List Int)) (h : I s.fn fb vs m cn = (m2, cn2, r)) => show R = (m2, cn2, r.map (fun outs => setAll s.names outs f)) by rw [← HR.out]; exact stepX_out QX.out HAV.out (by rw [hfb]; exact h))
      clear hfb HR
      go_cut [73, 74, 75] from 63 to 75 (fun s73 s74 s75 wx => ∃ (m2 : List Cl) (cn2 : Int) (xs : List Int) (B : Option Addr) (cB : Nat), s73 = .slice B xs.length cB ∧ s74 = .int .i64 (xs.length : Int) ∧ s75 = .int .i64 0 ∧ Aside0 (I s.fn fb vs m cn = (m2, cn2, some xs)) ∧ Aside0 (FAt w0 wx g ma (some xad) c l N m2 tr cn2 gf base mp f) ∧ Aside0 (Turned (fun b => b = g ∨ b = ma.block ∨ b = mp) w wx) ∧ Aside0 (wx.heap[gs]? = some (.cells #[.int .i64 s.op, .string s.name, .int .i64 s.pos, .int .i64 s.fn, .slice sA4 (s.names).length sc4, .int .i64 s.e.f0, .string s.e.f1, .int .i64 s.e.f2, .slice sA8 (s.e.f3).length sc8, .slice sA9 (s.e.f4).length sc9, .slice sA6 (s.args).length sc6, .slice sA7 (s.arms).length sc7] 41 (0, 0))) ∧ Aside0 ((Kd.int .i64).C wx B xs.length xs))
      case first =>
       go_region_with (first | (go_at_call 142; refine (HFU.out _ (HF.out.below' (below_drew1 (Below.refl _ _)))).mono ?_; rintro e w8 ⟨rfl, hb⟩; have HF8 := Aside0.mk ((HF.out.below' (below_drew1 (Below.refl _ _))).below' hb); have HB8 := Aside0.mk (below_step (below_drew1 HB.out) hb); have BS8 := Aside0.mk (below_blk (blk_drew BS.out) hb); have BX8 := Aside0.mk (below_blk (blk_drew BX.out) hb); have HC8 := Aside0.mk (Kd.C_below (Kd.C_below HC6.out (below_drew1 (Below.refl _ _))) hb); clear hb; have x0' := (blk_cell HF8.out.frm 0).trans rfl; have cx_0' := (blk_cell BX8.out 0).trans rfl; have cx_1' := (blk_cell BX8.out 1).trans rfl; have cx_2' := (blk_cell BX8.out 2).trans rfl; have cx_3' := (blk_cell BX8.out 3).trans rfl; have cx_4' := (blk_cell BX8.out 4).trans rfl; have cx_5' := (blk_cell BX8.out 5).trans rfl) | (go_at_call 52; refine (HIN.out _ HF8.out.run HC8.out).mono ?_; intro e w9 hp; unfold InPost at hp; rcases hr : I s.fn fb vs m cn with ⟨m2, cn2, _ | xs⟩; (focus (rw [hr] at hp; obtain ⟨rfl, hR9, ht9⟩ := hp; have HRN := Aside0.mk (show R = (m2, cn2, none) from HRX.out m2 cn2 none hr); have HR9 := Aside0.mk hR9; have HT9 := Aside0.mk ((T3_below (mp := mp) HB8.out).trans (T3_of ht9)); clear hr hR9 ht9; go_wp2_with fail; exact ⟨rfl, doPost_trap HRN.out HR9.out HT9.out⟩)); rw [hr] at hp; obtain ⟨⟨B, cB, rfl, hC9, _⟩, hR9, ht9⟩ := hp; have HRR := Aside0.mk hr; have HF9 := Aside0.mk (HF8.out.turned hR9 ht9); have HT9 := Aside0.mk ((T3_below (mp := mp) HB8.out).trans (T3_of ht9)); have BS9 := Aside0.mk (ht9.blk BS8.out (fun e => e.elim NS.out.1 NS.out.2.1)); have HC9 := Aside0.mk hC9; clear hr hC9 hR9 ht9))
       all_goals
        go_wp2_with fail
        go_meet
        case rel => exact ⟨_, _, _, _, _, rfl, rfl, rfl, HRR, HF9, HT9, BS9, HC9⟩
      case rest =>
      clear HF HB BS BX HC6 x0 cs_2 cx_0 cx_1 cx_2 cx_3 cx_4 cx_5 HIN HFU
      obtain ⟨m2, cn2, xs, B, cB, rfl, rfl, rfl, HRR, HF, HT, BS, HC⟩ := hcut
      have HRE := Aside0.mk (show R = (m2, cn2, some (setAll s.names xs f)) from HRX.out m2 cn2 (some xs) HRR.out)
      have HXN := Aside0.mk (show xs.length = s.names.length by rw [HLN.out xs m cn vs fb (by rw [HRR.out])]; exact Q.out.2)
      clear HRX HRR
      have hxm : xs.length ≤ 9223372036854775807 := HC.out.2.1
      have hxn := HXN.out
      go_wp2_with fail
      go_loopg [75] xs.length (fun gg s75 wr => ∃ (kk : Nat) (f2 : Vars), kk ≤ xs.length ∧ xs.length - kk ≤ gg ∧ s75 = .int .i64 kk ∧ Aside0 (FAt w0 wr g ma (some xad) c l N m2 tr cn2 gf base mp f2) ∧ Aside0 (Turned (fun b => b = g ∨ b = ma.block ∨ b = mp) w wr) ∧ Aside0 (wr.heap[gs]? = some (.cells #[.int .i64 s.op, .string s.name, .int .i64 s.pos, .int .i64 s.fn, .slice sA4 (s.names).length sc4, .int .i64 s.e.f0, .string s.e.f1, .int .i64 s.e.f2, .slice sA8 (s.e.f3).length sc8, .slice sA9 (s.e.f4).length sc9, .slice sA6 (s.args).length sc6, .slice sA7 (s.arms).length sc7] 41 (0, 0))) ∧ Aside0 ((Kd.int .i64).C wr B xs.length xs) ∧ Aside0 (setAll (s.names.drop kk) (xs.drop kk) f2 = setAll s.names xs f))
      case atStart => exact ⟨0, f, Nat.zero_le _, by omega, rfl, HF, HT, BS, HC, ⟨rfl⟩⟩
      case round =>
       clear HF HT BS HC
       obtain ⟨kk, f2, hkk, hgk, rfl, HF, HT, BS, HC, HS⟩ := hrel
       by_cases hlt : kk < xs.length
       ·have hltz : (kk : Int) < (xs.length : Int) := by omega
        have hltn : (kk : Int) < (s.names.length : Int) := by omega
        have HS1 := Aside0.mk (show setAll (s.names.drop (kk + 1)) (xs.drop (kk + 1)) (mupd f2 (s.names.getD kk ⟨#[]⟩) (xs.getD kk (0 : Int), true)) = setAll s.names xs f by rw [← setAll_cons f2 s.names xs kk (by omega) hlt]; exact HS.out)
        clear HS
        obtain ⟨nad, ncs, rfl, _, nK, ncc⟩ := Kd.C_get HC.out (0 : Int) (kk : Int) (by omega) (by omega)
        obtain rfl := nK
        have nx0 := ((Below.refl wr.heap.size wr).cell (World.block_lt_of_cell? wr _ (ncc 0 _ rfl))).trans (ncc 0 _ rfl)
        simp only [show (Kd.int .i64).sz = 1 from rfl, Nat.mul_one, Nat.add_zero, Int.toNat_natCast] at nx0
        clear ncc
        try simp only [Int.toNat_natCast] at nx0
        generalize Yv0 : xs.getD kk (0 : Int) = v at nx0
        have Yv := Aside0.mk Yv0; clear Yv0
        obtain ⟨tad, tcs, rfl, _, tK, tcc⟩ := Kd.C_get sG4.out (⟨#[]⟩ : ByteArray) (kk : Int) (by omega) (by omega)
        obtain rfl := tK
        have tx0 := (HF.out.run.below.cell (World.block_lt_of_cell? w0 _ (tcc 0 _ rfl))).trans (tcc 0 _ rfl)
        simp only [show Kd.string.sz = 1 from rfl, Nat.mul_one, Nat.add_zero, Int.toNat_natCast] at tx0
        clear tcc
        try simp only [Int.toNat_natCast] at tx0
        generalize Ynm0 : s.names.getD kk (⟨#[]⟩ : ByteArray) = nm at tx0
        have Ynm := Aside0.mk Ynm0; clear Ynm0
        rw [Yv.out, Ynm.out] at HS1
        have x2 := (blk_cell HF.out.frm 2).trans rfl
        have cs_4 := (blk_cell BS.out 4).trans rfl
        obtain ⟨w7, hmu, hs7, hg7⟩ := StrMap.store (P := Tryz.prog) (show StrMap (World.drew wr) mp (menc encC f2) from HF.out.vars) (t := 124) (k := 9) (e := 91) Tryz.underlying124 Tryz.underlying9 nm (.agg #[.int .i64 v, .bool true])
        have HS7 := Aside0.mk hs7
        have HG7 := Aside0.mk hg7
        clear hs7 hg7
        go_wp2_with fail
        go_region
        all_goals
         replace HC := Aside0.mk (ints_kept (fun a v h => cells_map (show StrMap (World.drew wr) mp (menc encC f2) from HF.out.vars) HG7.out a v h) (Kd.C_below HC.out (below_drew1 (Below.refl _ _))))
         replace HF := Aside0.mk ((HF.out.below' (below_drew1 (Below.refl _ _))).stored (show StrMap w7 mp (menc encC (mupd f2 nm (v, true))) from (menc_mupd encC f2 nm (v, true)) ▸ HS7.out) HG7.out)
         replace HT := Aside0.mk (HT.out.drew.trans (Turned.of_grown (S := (fun b => b = g ∨ b = ma.block ∨ b = mp)) HG7.out (by rintro k ⟨⟩; exact .inr (.inr rfl))))
         replace BS := Aside0.mk (blk_put_far (blk_drew BS.out) HG7.out NS.out.2.2)
         clear hmu x2 cs_4 tx0 nx0
         go_wp2_with fail
         go_roundg (xs.length - (kk + 1))
         case measure => omega
         case rel => exact ⟨kk + 1, mupd f2 nm (v, true), by omega, by omega, by go_num, HF, HT, BS, HC, HS1⟩
       ·obtain rfl : kk = xs.length := by omega
        have HFE := Aside0.mk (show R = (m2, cn2, some f2) by have h := HS.out; rw [List.drop_length, List.drop_of_length_le (by omega)] at h; rw [HRE.out, ← h]; rfl)
        clear HS HRE
        go_wp2_with fail
        go_end0
        exact doPost_done HFE.out HF.out HT.out
  ·have d0 : ((x.params.length : Int) == (s.args.length : Int)) = true := by rw [q0]; exact beq_self_eq_true _
   have d1 : ((x.results.length : Int) == (s.names.length : Int)) = false := beq_eq_false_iff_ne.2 (by omega)
   have HRN := Aside0.mk (show R = (m, cn, none) by rw [← HR.out]; exact stepX_no (by rw [Yx.out]; exact fun hh => q1 hh.2))
   clear q0 q1 HR
   have cx_0 := (blk_cell BX.out 0).trans rfl
   have cx_1 := (blk_cell BX.out 1).trans rfl
   have cs_4 := (blk_cell BS.out 4).trans rfl
   have cs_10 := (blk_cell BS.out 10).trans rfl
   go_wp2_with fail
   refine (must_f _).mono ?_
   rintro e w9 ⟨rfl, rfl⟩
   go_wp2_with fail
   exact ⟨rfl, doPost_trap HRN.out HF.out.run (T3_below HB.out)⟩
 ·have d0 : ((x.params.length : Int) == (s.args.length : Int)) = false := beq_eq_false_iff_ne.2 (by omega)
  have HRN := Aside0.mk (show R = (m, cn, none) by rw [← HR.out]; exact stepX_no (by rw [Yx.out]; exact fun hh => q0 hh.1))
  clear q0 HR
  have cx_0 := (blk_cell BX.out 0).trans rfl
  have cx_1 := (blk_cell BX.out 1).trans rfl
  have cs_4 := (blk_cell BS.out 4).trans rfl
  have cs_10 := (blk_cell BS.out 10).trans rfl
  go_wp2_with fail
  refine (must_f _).mono ?_
  rintro e w9 ⟨rfl, rfl⟩
  go_wp2_with fail
  exact ⟨rfl, doPost_trap HRN.out HF.out.run (T3_below HB.out)⟩
end Go.Proofs.YticndoihkfbpoaaGreatDoor
