/- Package runner: New, Begin. -/
import Derived.Lib.SliceRun
import Derived.Test.YticndoihkfbpoaaGreatDoorYg
namespace Go.Proofs.YticndoihkfbpoaaGreatDoor
open Go Go.RowKit Go.Lib Go.Proofs.YticndoihkfbpoaaGreatDoorW.PrintWords Go.Proofs.YticndoihkfbpoaaGreatDoor.PScope
set_option maxRecDepth 100000
set_option linter.unusedSimpArgs false
set_option linter.unusedVariables false
theorem last_calls {w0 w : World} {g : Nat} {ma : Addr} {A : Option Addr} {c : Nat} {l : List FF} {N : Nat} {m : List (Int × Bool)} {tr : Bool} {cn : Int} (hR : RAt w0 w g ma A c l N m tr cn) (h0 : 0 < l.length) (hm : l.length ≤ 9223372036854775807) :
  Calls Tryz.prog 50 #[.pointer (some ⟨g, 0, none⟩)] w fun e w' => e = .returned (.int .i64 ((l.length - 1 : Nat) : Int)) ∧ w' = w := by
 have x0 := (blk_cell hR.blk 0).trans rfl
 have hw : wrap64 ((l.length : Int) - 1) = ((l.length - 1 : Nat) : Int) := by unfold wrap64; omega
 clear hR h0 hm
 generalize ((l.length - 1 : Nat) : Int) = v at hw ⊢
 go_enter Tryz.func50, Tryz.ntmps50
 go_wp2_with fail
 go_ret
 exact ⟨by rw [← hw]; rfl, rfl⟩
def cellsN (l : List FF) : Nat := (l.getD (l.length - 1) zFF).cells.toNat
def begunM (l : List FF) (m : List (Int × Bool)) : List (Int × Bool) := anewF l l.length ((l.length - 1 : Nat) : Int) 0 m
theorem rbegin_calls {w0 w : World} {g : Nat} {ma : Addr} {A : Option Addr} {c : Nat} {l : List FF} {N : Nat} {m : List (Int × Bool)} {tr : Bool} {cn : Int} (hR : RAt w0 w g ma A c l N m tr cn) (hok : flatOk l = true) (hm : l.length ≤ 9223372036854775807) (hC : kFF.C w0 A l.length l) (hN : N = cellsN l) :
  Calls Tryz.prog 23 #[.pointer (some ⟨g, 0, none⟩)] w fun e w' => e = .returned (.tuple #[]) ∧ RAt w0 w' g ma A c l N (begunM l m) false 0 ∧ Turned (fun b => b = g ∨ b = ma.block) w w' := by
 have h0 : 0 < l.length := by
  unfold flatOk at hok
  simp only [Bool.and_eq_true, decide_eq_true_eq] at hok
  exact hok.2
 have hfo := FunOk.of (funOk hok (k := l.length - 1) (by omega))
 have hl := fun (W : World) (h : RAt w0 W g ma A c l N m tr cn) => last_calls h h0 hm
 have ha := fun (W : World) (h : RAt w0 W g ma A c l N m tr cn) => anew_calls l hok hm w0 g ma A c N tr cn hC l.length ((l.length - 1 : Nat) : Int) 0 m W h (by omega) (by omega) (by omega) (by omega) (by have := hfo.c0; rw [hN]; unfold cellsN; simp only [Int.toNat_natCast]; omega)
 have HR := Aside0.mk hR
 have HA := Aside0.mk ha
 clear hfo hR hok hC hm hN h0 ha
 unfold begunM
 generalize ((l.length - 1 : Nat) : Int) = v at hl HA ⊢
 go_enter Tryz.func23, Tryz.ntmps23
 go_wp2_with fail
 refine (hl _ HR.out).mono ?_
 rintro e w1 ⟨rfl, rfl⟩
 clear hl
 go_wp2_with fail
 refine (HA.out _ HR.out).mono ?_
 rintro e w2 ⟨rfl, hR2, ht2⟩
 have HR2 := Aside0.mk hR2
 have HT := Aside0.mk (ht2.mono (T := fun b => b = g ∨ b = ma.block) (fun k _ hk => .inr hk))
 have x2 := (blk_cell hR2.blk 2).trans rfl
 have x3 := (blk_cell hR2.blk 3).trans rfl
 have y2 := blk_frozen hR2.blk 2
 have y3 := blk_frozen hR2.blk 3
 have hb1 := blk_put hR2.blk 2 (.bool false) rfl
 have x3' := (blk_cell hb1 3).trans rfl
 have y3' := blk_frozen hb1 3
 have HB2 := Aside0.mk (blk_put hb1 3 (.int .i64 0) rfl)
 clear hR2 ht2 HA hb1
 go_wp2_with fail
 go_end0
 refine ⟨rfl, ⟨HB2.out, ?_, HR2.out.len, HR2.out.few, HR2.out.hg, HR2.out.hb, HR2.out.ne, below_set (below_set HR2.out.below HR2.out.hg) HR2.out.hg⟩, (HT.out.set (p := ⟨g, 2, none⟩) (.inl rfl) _).set (p := ⟨g, 3, none⟩) (.inl rfl) _⟩
 exact ⟨HR2.out.mem.1, blk_far (blk_far HR2.out.mem.2 (p := ⟨g, 2, none⟩) (fun e => HR2.out.ne e.symm) _) (p := ⟨g, 3, none⟩) (fun e => HR2.out.ne e.symm) _⟩
theorem info_cell : (Tryz.prog.info? 91).map (fun i => (i.zero, i.size, i.bytes)) = some (some (.agg #[.int .i64 0, .bool false]), 2, 16) := by kernel_rfl
theorem made_zs (n : Nat) : (madeCells #[.int .i64 0, .bool false] (n * 2)).toList = zs n := by
 unfold zs Builtin.zeroCells madeCells
 rfl
theorem run_make_mem (x : Int) (h0 : 0 ≤ x) (h1 : x ≤ 1000) (W : World) : (Instr.makeSlice 78 (.int .i64 x) (.int .i64 x)).run Tryz.prog W = .ok (.slice (some ⟨W.heap.size, 0, none⟩) x.toNat x.toNat) (W.alloc (.cells (memVals (List.replicate x.toNat (0, false))).toArray 91)) := by
 obtain ⟨i, hi, hzz⟩ := Option.map_eq_some_iff.1 info_cell
 simp only [Prod.mk.injEq] at hzz
 obtain ⟨hz, hs, hb⟩ := hzz
 have hr := run_make (P := Tryz.prog) W 78 91 i _ Tryz.underlying78 hi hz .i64 .i64 x x h0 (Int.le_refl _) (by rw [hb]; omega) (by omega)
 rw [hr, hs, memVals_zero, ← made_zs]
 simp [show (Value.agg #[.int .i64 0, .bool false]).cells = #[.int .i64 0, .bool false] from rfl]
def NewPost (l : List FF) (A : Option Addr) (c : Nat) (w : World) (e : Ending) (w' : World) : Prop :=
 (newErr l ≠ 0 ∧ e = .returned (.tuple #[.pointer none, .int .i64 (newErr l)]) ∧ Below w.heap.size w w') ∨
 (newErr l = 0 ∧ ∃ g ma, e = .returned (.tuple #[.pointer (some ⟨g, 0, none⟩), .int .i64 0]) ∧ RAt w w' g ma A c l (cellsN l) (begunM l (List.replicate (cellsN l) (0, false))) false 0)
theorem flat_pos {l : List FF} (h : flatOk l = true) : 0 < l.length := by
 unfold flatOk at h
 simp only [Bool.and_eq_true, decide_eq_true_eq] at h
 exact h.2
theorem rat_new {w w3 : World} (A : Option Addr) (c : Nat) (l : List FF) {N : Nat} (hb : Below w.heap.size w w3) (hn : N ≤ 1000) :
  RAt w ((w3.alloc (.cells (memVals (List.replicate N (0, false))).toArray 91)).alloc (.cells #[.slice A l.length c, .slice (some ⟨w3.heap.size, 0, none⟩) N N, .bool false, .int .i64 0] 80)) (w3.heap.size + 1) ⟨w3.heap.size, 0, none⟩ A c l N (List.replicate N (0, false)) false 0 := by
 have hs : (w3.alloc (.cells (memVals (List.replicate N (0, false))).toArray 91)).heap.size = w3.heap.size + 1 := Array.size_push _
 refine ⟨?_, ⟨rfl, blk_alloc (blk_new w3 _) _⟩, by simp, hn, ?_, hb.size, ?_, below_alloc (below_alloc hb _) _⟩
 ·have h := blk_new (w3.alloc (.cells (memVals (List.replicate N (0, false))).toArray 91)) (.cells #[.slice A l.length c, .slice (some ⟨w3.heap.size, 0, none⟩) N N, .bool false, .int .i64 0] 80)
  rw [hs] at h
  exact h
 ·exact Nat.le_succ_of_le hb.size
 ·exact Nat.succ_ne_self _
theorem RAt.drew {w w3 : World} {g : Nat} {ma : Addr} {A : Option Addr} {c : Nat} {l : List FF} {N : Nat} {m : List (Int × Bool)} {tr : Bool} {cn : Int} (h : RAt w w3 g ma A c l N m tr cn) : RAt w w3.drew g ma A c l N m tr cn := ⟨h.blk, h.mem, h.len, h.few, h.hg, h.hb, h.ne, below_drew1 h.below⟩
set_option maxHeartbeats 2000000 in
theorem new_calls (l : List FF) (hl : FlatSmall l) (w : World) (A : Option Addr) (c : Nat) (hC : kFF.C w A l.length l) :
  Calls Tryz.prog 21 #[.agg #[.slice A l.length c]] w (NewPost l A c w) := by
 have hmax := hl.len
 have HC := Aside0.mk hC
 have hwg := fun (W : World) (hB : Below w.heap.size w W) => weigh_calls l hl W A c (Kd.C_below hC hB)
 unfold WeighPost at hwg
 obtain ⟨ok, hok⟩ : ∃ ok, flatOk l = ok := ⟨_, rfl⟩
 obtain ⟨wt, hwt⟩ : ∃ wt, weighW l = wt := ⟨_, rfl⟩
 rw [hok, hwt] at hwg
 have HW := Aside0.mk hwg
 have HOK := Aside0.mk hok
 have HWT := Aside0.mk hwt
 clear hl hC hwg hok hwt
 cases ok with
 | false =>
  have HE := Aside0.mk (show newErr l = 10 by unfold newErr; rw [HOK.out]; rfl)
  go_enter Tryz.func21, Tryz.ntmps21
  go_wp2_with fail
  refine (HW.out _ (below_alloc (Below.refl _ w) _)).mono ?_
  rintro e w1 ⟨rfl, hb⟩
  have HB := Aside0.mk (below_step (below_alloc (Below.refl _ w) _) hb)
  clear hb
  go_wp2_with fail
  go_ret2
  exact .inl ⟨by rw [HE.out]; decide, by rw [HE.out]; rfl, HB.out⟩
 | true =>
  have HWA := Aside0.mk (show weightAll l = wt by rw [← HWT.out]; unfold weighW; rw [HOK.out, if_pos rfl])
  by_cases hw : wt > 1000
  ·have dw : decide (wt > 1000) = true := decide_eq_true hw
   have HE := Aside0.mk (show newErr l = 9 by unfold newErr; rw [HOK.out, HWA.out, if_pos rfl, if_pos hw])
   clear hw
   go_enter Tryz.func21, Tryz.ntmps21
   go_wp2_with fail
   refine (HW.out _ (below_alloc (Below.refl _ w) _)).mono ?_
   rintro e w1 ⟨rfl, hb⟩
   have HB := Aside0.mk (below_step (below_alloc (Below.refl _ w) _) hb)
   clear hb
   go_wp2_with fail
   go_ret2
   exact .inl ⟨by rw [HE.out]; decide, by rw [HE.out]; rfl, HB.out⟩
  ·have dw : decide (wt > 1000) = false := decide_eq_false hw
   have HE := Aside0.mk (show newErr l = 0 by unfold newErr; rw [HOK.out, HWA.out, if_pos rfl, if_neg hw])
   clear hw
   have hpos := flat_pos HOK.out
   go_enter Tryz.func21, Tryz.ntmps21
   go_wp2_with fail
   refine (HW.out _ (below_alloc (Below.refl _ w) _)).mono ?_
   rintro e w1 ⟨rfl, hb⟩
   have HB := Aside0.mk (below_step (below_alloc (Below.refl _ w) _) hb)
   have HBX := Aside0.mk (below_blk (blk_new w _) hb)
   have b0 := (blk_cell HBX.out 0).trans rfl
   clear hb
   go_upto_region 6 with fail
   obtain ⟨v, hv⟩ : ∃ v : Int, ((l.length - 1 : Nat) : Int) = v := ⟨_, rfl⟩
   have hv0 : 0 ≤ v := by omega
   have hv1 : v < (l.length : Int) := by omega
   have hw1 : wrap64 ((l.length : Int) - 1) = v := by unfold wrap64; omega
   have hw2 : IntKind.i64.wrap ((l.length : Int) - 1) = v := by rw [wrapEq]; exact hw1
   have HFO := Aside0.mk (FunOk.of (funOk HOK.out (k := l.length - 1) (by omega)))
   have HCN := Aside0.mk (show cellsN l = (l.getD v.toNat zFF).cells.toNat by unfold cellsN; rw [← hv]; rfl)
   have hxe : l.getD (l.length - 1) zFF = l.getD v.toNat zFF := by rw [← hv]; rfl
   rw [hxe] at HFO
   obtain ⟨ead, ecs, rfl, _, eK, ecc⟩ := Kd.C_get HC.out zFF v (by omega) (by omega)
   have eK' := eK
   obtain ⟨eA0, ec0, eA1, ec1, eA3, ec3, eA4, ec4, eA5, ec5, rfl, _, _, _, _, _, _, _, _, _, _⟩ := kFF_open6 eK'
   have ex2 := (HB.out.cell (World.block_lt_of_cell? w _ (ecc 2 _ rfl))).trans (ecc 2 _ rfl)
   rw [show kFF.sz = 6 from rfl, add_field _ _ 2 (by omega)] at ex2
   clear ecc eK eK' hxe hv
   generalize l.getD v.toNat zFF = x at ex2 HFO HCN
   have hmk := run_make_mem x.cells HFO.out.c0 HFO.out.c1
   rw [← HCN.out] at hmk
   have HN := Aside0.mk (show cellsN l ≤ 1000 by have := HFO.out.c1; rw [HCN.out]; omega)
   clear HFO HCN
   have b1 := fun (ob : Obj) => (blk_cell (blk_alloc HBX.out ob) 0).trans rfl
   have ex3 := fun (ob : Obj) => (cell?_alloc_some ob ex2)
   go_cut [6] from 19 to 32 (fun s6 wx => s6 = .pointer (some ⟨w1.heap.size + 1, 0, none⟩) ∧ wx = World.drew ((w1.alloc (.cells (memVals (List.replicate (cellsN l) (0, false))).toArray 91)).alloc (.cells #[.slice (some ead) l.length c, .slice (some ⟨w1.heap.size, 0, none⟩) (cellsN l) (cellsN l), .bool false, .int .i64 0] 80)))
   case first =>
    go_region
    all_goals
     go_wp2_with fail
     go_meet
     case rel => exact ⟨rfl, rfl⟩
   case rest =>
   obtain ⟨rfl, rfl⟩ := hcut
   have HR4 := Aside0.mk (rat_new (some ead) c l HB.out HN.out).drew
   clear hmk hw1 hw2 b0 b1 ex2 ex3 HB HBX
   go_wp2_with fail
   refine (rbegin_calls HR4.out HOK.out (by omega) HC.out rfl).mono ?_
   rintro e w5 ⟨rfl, hR5, _⟩
   have HR5 := Aside0.mk hR5
   clear hR5
   go_wp2_with fail
   go_ret2
   exact .inr ⟨HE.out, _, _, rfl, HR5.out⟩
def zsR (n : Nat) : List Value := (Builtin.zeroCells #[.bool false, .int .i64 0] n).toList
theorem zsR_zero : zsR 0 = [] := by simp [zsR, Builtin.zeroCells]
theorem zsR_get (n j : Nat) (h : j < n * 2) : (zsR n)[j]? = some (if j % 2 = 0 then Value.bool false else .int .i64 0) := by
 unfold zsR Builtin.zeroCells
 simp [h]
 rcases Nat.mod_two_eq_zero_or_one j with e | e <;> rw [e] <;> rfl
theorem zsR_len (n : Nat) : (zsR n).length = n * 2 := by simp [zsR, Builtin.zeroCells]
theorem zsR_succ (n : Nat) : zsR (n + 1) = .bool false :: .int .i64 0 :: zsR n := by
 apply List.ext_getElem?
 intro j
 match j with
 | 0 => rw [zsR_get _ _ (by omega)]; rfl
 | 1 => rw [zsR_get _ _ (by omega)]; rfl
 | j + 2 =>
  rw [List.getElem?_cons_succ, List.getElem?_cons_succ]
  by_cases h : j < n * 2
  ·rw [zsR_get _ _ (by omega), zsR_get _ _ h, Nat.add_mod_right]
  ·rw [List.getElem?_eq_none (by rw [zsR_len]; omega), List.getElem?_eq_none (by rw [zsR_len]; omega)]
theorem memValsR_zero : ∀ n : Nat, memValsR (List.replicate n (0, false)) = zsR n
 | 0 => by rw [zsR_zero]; rfl
 | n + 1 => by rw [List.replicate_succ, memValsR, memValsR_zero n, zsR_succ]
theorem info_cellR : (Tryz.prog.info? 93).map (fun i => (i.zero, i.size, i.bytes)) = some (some (.agg #[.bool false, .int .i64 0]), 2, 16) := by kernel_rfl
theorem made_zsR (n : Nat) : (madeCells #[.bool false, .int .i64 0] (n * 2)).toList = zsR n := by
 unfold zsR Builtin.zeroCells madeCells
 rfl
theorem run_make_memR (x : Int) (h0 : 0 ≤ x) (h1 : x ≤ 1000) (W : World) : (Instr.makeSlice 54 (.int .i64 x) (.int .i64 x)).run Tryz.prog W = .ok (.slice (some ⟨W.heap.size, 0, none⟩) x.toNat x.toNat) (W.alloc (.cells (memValsR (List.replicate x.toNat (0, false))).toArray 93)) := by
 obtain ⟨i, hi, hzz⟩ := Option.map_eq_some_iff.1 info_cellR
 simp only [Prod.mk.injEq] at hzz
 obtain ⟨hz, hs, hb⟩ := hzz
 have hr := run_make (P := Tryz.prog) W 54 93 i _ Tryz.underlying54 hi hz .i64 .i64 x x h0 (Int.le_refl _) (by rw [hb]; omega) (by omega)
 rw [hr, hs, memValsR_zero, ← made_zsR]
 simp [show (Value.agg #[.bool false, .int .i64 0]).cells = #[.bool false, .int .i64 0] from rfl]
theorem wsFrom_length : ∀ (l : List FF) (ws : List Int), (wsFrom ws l).length = ws.length + l.length
 | [], ws => by rw [wsFrom]; rfl
 | f :: r, ws => by rw [wsFrom, wsFrom_length r]; simp; omega
theorem tsFrom_length : ∀ (l : List FF) (ts : List Int), (tsFrom ts l).length = ts.length + l.length
 | [], ts => by rw [tsFrom]; rfl
 | f :: r, ts => by rw [tsFrom, tsFrom_length r]; simp; omega
theorem last_getD (xs : List Int) (h : 0 < xs.length) : xs.getLastD 0 = xs.getD (xs.length - 1) 0 := by
 rw [List.getLastD_eq_getLast?, List.getLast?_eq_getElem?, List.getD_eq_getElem?_getD]
theorem newErr_eq {l : List FF} (hok : flatOk l = true) (hpos : 0 < l.length) : newErr l = if (wsFrom [] l).getD (l.length - 1) 0 > 1000 ∨ (tsFrom [] l).getD (l.length - 1) 0 > 1000 then 9 else 0 := by
 unfold newErr weightAll
 have h1 := wsFrom_length l []
 have h2 := tsFrom_length l []
 simp only [List.length_nil, Nat.zero_add] at h1 h2
 rw [hok, if_pos rfl, last_getD _ (by omega), last_getD _ (by omega), h1, h2]
 generalize (wsFrom [] l).getD (l.length - 1) 0 = a
 generalize (tsFrom [] l).getD (l.length - 1) 0 = b
 by_cases h : a > 1000 ∨ b > 1000
 ·rw [if_pos h, if_pos (by omega)]
 ·rw [if_neg h, if_neg (by omega)]
theorem rat_newR {w w3 : World} (A : Option Addr) (c : Nat) (l : List FF) {N : Nat} (hb : Below w.heap.size w w3) (hn : N ≤ 1000) :
  RAtR w ((w3.alloc (.cells (memValsR (List.replicate N (0, false))).toArray 93)).alloc (.cells #[.slice A l.length c, .slice (some ⟨w3.heap.size, 0, none⟩) N N, .bool false, .int .i64 0] 56)) (w3.heap.size + 1) ⟨w3.heap.size, 0, none⟩ A c l N (List.replicate N (0, false)) false 0 := by
 have hs : (w3.alloc (.cells (memValsR (List.replicate N (0, false))).toArray 93)).heap.size = w3.heap.size + 1 := Array.size_push _
 refine ⟨?_, ⟨rfl, blk_alloc (blk_new w3 _) _⟩, by simp, hn, ?_, hb.size, ?_, below_alloc (below_alloc hb _) _⟩
 ·have h := blk_new (w3.alloc (.cells (memValsR (List.replicate N (0, false))).toArray 93)) (.cells #[.slice A l.length c, .slice (some ⟨w3.heap.size, 0, none⟩) N N, .bool false, .int .i64 0] 56)
  rw [hs] at h
  exact h
 ·exact Nat.le_succ_of_le hb.size
 ·exact Nat.succ_ne_self _
end Go.Proofs.YticndoihkfbpoaaGreatDoor
