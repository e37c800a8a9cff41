/- The reference's New. -/
import Derived.Deep.CutRange
import Derived.Test.YticndoihkfbpoaaGreatDoorYh
import Derived.Test.YticndoihkfbpoaaGreatDoorVs
namespace Go.Proofs.YticndoihkfbpoaaGreatDoor
open Go Go.RowKit Go.Lib Go.Proofs.YticndoihkfbpoaaGreatDoorW.PrintWords Go.Proofs.YticndoihkfbpoaaGreatDoor.PScope
set_option maxRecDepth 100000
set_option linter.unusedSimpArgs false
set_option linter.unusedVariables false
def RNewPost (l : List FF) (A : Option Addr) (c : Nat) (w : World) (e : Ending) (w' : World) : Prop :=
 (newErr l ≠ 0 ∧ e = .returned (.tuple #[.pointer none, .int .i64 (newErr l)]) ∧ Below w.heap.size w w') ∨
 (newErr l = 0 ∧ ∃ g ma, e = .returned (.tuple #[.pointer (some ⟨g, 0, none⟩), .int .i64 0]) ∧ RAtR w w' g ma A c l (cellsN l) (begunM l (List.replicate (cellsN l) (0, false))) false 0)
set_option maxHeartbeats 8000000 in
theorem rnew_calls (l : List FF) (hl : FlatSmall l) (w : World) (A : Option Addr) (c : Nat) (hC : kFF.C w A l.length l) : Calls Tryz.prog 22 #[.agg #[.slice A l.length c]] w (RNewPost l A c w) := by
 have hba := below_alloc (Below.refl w.heap.size w) (.cells #[.slice A l.length c] 24)
 have BX := Aside0.mk (blk_new w (.cells #[.slice A l.length c] 24))
 have HC0 := Aside0.mk hC
 have HB := Aside0.mk hba
 have HL := Aside0.mk hl
 have hmx := hl.len
 clear hl hC hba
 go_enter Tryz.func22, Tryz.ntmps22
 go_wp2_with fail
 obtain ⟨gx, hgx⟩ : ∃ gx, w.heap.size = gx := ⟨_, rfl⟩
 rw [hgx] at BX ⊢
 clear hgx
 generalize w.alloc (.cells #[.slice A l.length c] 24) = w1 at BX HB ⊢
 have bx0 := (blk_cell BX.out 0).trans rfl
 go_wp2_with fail
 refine (rright_calls l HL.out w1 A c (Kd.C_below HC0.out HB.out)).mono ?_
 rintro e w2 ⟨rfl, hb⟩
 replace BX := Aside0.mk (below_blk BX.out hb); replace HB := Aside0.mk (below_step HB.out hb)
 clear hb bx0
 cases hok : flatOk l with
 | false =>
  have HE := Aside0.mk (show newErr l = 10 by unfold newErr; rw [hok]; rfl)
  clear hok
  go_wp2_with fail
  go_ret2
  exact .inl ⟨by rw [HE.out]; decide, by rw [HE.out]; rfl, HB.out⟩
 | true =>
  have HOK := Aside0.mk hok
  have hpos := flat_pos hok
  have HNE := Aside0.mk (newErr_eq hok hpos)
  have hlw : (wsFrom [] l).length = l.length := by have := wsFrom_length l []; simpa using this
  have hlt : (tsFrom [] l).length = l.length := by have := tsFrom_length l []; simpa using this
  obtain ⟨v, hv⟩ : ∃ v : Int, ((l.length - 1 : Nat) : Int) = v := ⟨_, rfl⟩
  have hv0 : 0 ≤ v := by omega
  have hv1 : v < (l.length : Int) := by omega
  have hvn : l.length - 1 = v.toNat := by omega
  rw [hvn] at HNE
  have hw1 : wrap64 ((l.length : Int) - 1) = v := by unfold wrap64; omega
  have hw2 : IntKind.i64.wrap ((l.length : Int) - 1) = v := by rw [wrapEq]; exact hw1
  have HFO := Aside0.mk (FunOk.of (funOk hok (k := l.length - 1) (by omega)))
  have HCN := Aside0.mk (show cellsN l = (l.getD v.toNat zFF).cells.toNat by unfold cellsN; rw [hvn])
  rw [hvn] at HFO
  have HLW := Aside0.mk hlw; have HLT := Aside0.mk hlt
  have HVV := Aside0.mk (show anewF l l.length v 0 (List.replicate (cellsN l) (0, false)) = begunM l (List.replicate (cellsN l) (0, false)) by unfold begunM; rw [hv])
  clear hok hv hvn hlw hlt hpos
  have bx0 := (blk_cell BX.out 0).trans rfl
  go_wp2_with fail
  refine (rWeighs_calls l HL.out HOK.out w2 A c (Kd.C_below HC0.out HB.out)).mono ?_
  rintro e w3 ⟨Bw, cw, rfl, hCw, hb⟩
  replace BX := Aside0.mk (below_blk BX.out hb); replace HB := Aside0.mk (below_step HB.out hb)
  have HCW := Aside0.mk hCw
  clear hb bx0 hCw
  obtain ⟨wl, hwl⟩ : ∃ wl, wsFrom [] l = wl := ⟨_, rfl⟩
  rw [hwl] at HCW HLW HNE ⊢
  clear hwl
  have hlw := HLW.out
  obtain ⟨aad, acs, rfl, _, aK, acc⟩ := Kd.C_get HCW.out (0 : Int) v (by omega) (by omega)
  obtain rfl := aK
  have ax0 := ((Below.refl w3.heap.size w3).cell (World.block_lt_of_cell? w3 _ (acc 0 _ rfl))).trans (acc 0 _ rfl)
  simp only [show (Kd.int .i64).sz = 1 from rfl, Nat.mul_one, Nat.add_zero] at ax0
  clear acc
  generalize Ya0 : wl.getD v.toNat (0 : Int) = a at ax0
  have Ya := Aside0.mk Ya0; clear Ya0
  rw [Ya.out] at HNE
  have hvw : v < (wl.length : Int) := by omega
  by_cases h9 : a > 1000
  ·have d9 : decide (a > 1000) = true := decide_eq_true h9
   have HE := Aside0.mk (show newErr l = 9 by rw [HNE.out, if_pos (.inl h9)])
   clear h9
   go_wp2_with fail
   go_ret2
   exact .inl ⟨by rw [HE.out]; decide, by rw [HE.out]; rfl, HB.out⟩
  have d9 : decide (a > 1000) = false := decide_eq_false h9
  have bx0 := (blk_cell BX.out 0).trans rfl
  have H9 := Aside0.mk h9
  clear h9
  go_wp2_with fail
  refine (rTakes_calls l HL.out HOK.out w3 A c (Kd.C_below HC0.out HB.out)).mono ?_
  rintro e w4 ⟨Bt, ct, rfl, hCt, hb⟩
  replace BX := Aside0.mk (below_blk BX.out hb); replace HB := Aside0.mk (below_step HB.out hb)
  have HCT := Aside0.mk hCt
  clear hb bx0 hCt d9 ax0 hvw hlw
  obtain ⟨tl, htl⟩ : ∃ tl, tsFrom [] l = tl := ⟨_, rfl⟩
  rw [htl] at HCT HLT HNE ⊢
  clear htl
  have hlt := HLT.out
  obtain ⟨bad, bcs, rfl, _, bK, bcc⟩ := Kd.C_get HCT.out (0 : Int) v (by omega) (by omega)
  obtain rfl := bK
  have bx0 := ((Below.refl w4.heap.size w4).cell (World.block_lt_of_cell? w4 _ (bcc 0 _ rfl))).trans (bcc 0 _ rfl)
  simp only [show (Kd.int .i64).sz = 1 from rfl, Nat.mul_one, Nat.add_zero] at bx0
  clear bcc
  generalize Yb0 : tl.getD v.toNat (0 : Int) = b at bx0
  have Yb := Aside0.mk Yb0; clear Yb0
  rw [Yb.out] at HNE
  have hvt : v < (tl.length : Int) := by omega
  by_cases h9 : b > 1000
  ·have d9 : decide (b > 1000) = true := decide_eq_true h9
   have HE := Aside0.mk (show newErr l = 9 by rw [HNE.out, if_pos (.inr h9)])
   clear h9
   go_wp2_with fail
   go_ret2
   exact .inl ⟨by rw [HE.out]; decide, by rw [HE.out]; rfl, HB.out⟩
  have d9 : decide (b > 1000) = false := decide_eq_false h9
  have HE := Aside0.mk (show newErr l = 0 by rw [HNE.out, if_neg (fun h => by have := H9.out; omega)])
  clear h9
  go_upto_region 6 with fail
  clear d9 hvt hlt
  obtain ⟨ead, ecs, rfl, _, eK, ecc⟩ := Kd.C_get HC0.out zFF v (by omega) (by omega)
  have eK' := eK
  obtain ⟨eA0, ec0, eA1, ec1, eA3, ec3, eA4, ec4, eA5, ec5, rfl, el0, eg0, el1, eg1, el3, eg3, el4, eg4, el5, eg5⟩ := kFF_open6 eK'
  have ex0 := (HB.out.cell (World.block_lt_of_cell? w _ (ecc 0 _ rfl))).trans (ecc 0 _ rfl)
  have ex1 := (HB.out.cell (World.block_lt_of_cell? w _ (ecc 1 _ rfl))).trans (ecc 1 _ rfl)
  have ex2 := (HB.out.cell (World.block_lt_of_cell? w _ (ecc 2 _ rfl))).trans (ecc 2 _ rfl)
  have ex3 := (HB.out.cell (World.block_lt_of_cell? w _ (ecc 3 _ rfl))).trans (ecc 3 _ rfl)
  have ex4 := (HB.out.cell (World.block_lt_of_cell? w _ (ecc 4 _ rfl))).trans (ecc 4 _ rfl)
  have ex5 := (HB.out.cell (World.block_lt_of_cell? w _ (ecc 5 _ rfl))).trans (ecc 5 _ rfl)
  rw [show (kFF).sz = 6 from rfl, Nat.add_zero] at ex0
  rw [show (kFF).sz = 6 from rfl, add_field _ _ 1 (by omega)] at ex1
  rw [show (kFF).sz = 6 from rfl, add_field _ _ 2 (by omega)] at ex2
  rw [show (kFF).sz = 6 from rfl, add_field _ _ 3 (by omega)] at ex3
  rw [show (kFF).sz = 6 from rfl, add_field _ _ 4 (by omega)] at ex4
  rw [show (kFF).sz = 6 from rfl, add_field _ _ 5 (by omega)] at ex5
  clear ecc
  generalize Yx0 : l.getD v.toNat zFF = x at ex0 ex1 ex2 ex3 ex4 ex5 eK el0 eg0 el1 eg1 el3 eg3 el4 eg4 el5 eg5
  have Yx := Aside0.mk Yx0; clear Yx0
  rw [Yx.out] at HFO HCN
  clear ex0 ex1 ex3 ex4 ex5 eK el0 eg0 el1 eg1 el3 eg3 el4 eg4 el5 eg5
  have hmk := run_make_memR x.cells HFO.out.c0 HFO.out.c1
  rw [← HCN.out] at hmk
  have HN := Aside0.mk (show cellsN l ≤ 1000 by have := HFO.out.c1; rw [HCN.out]; omega)
  have bx0 := (blk_cell BX.out 0).trans rfl
  have b1 := fun (ob : Obj) => (blk_cell (blk_alloc BX.out ob) 0).trans rfl
  have ex3 := fun (ob : Obj) => (cell?_alloc_some ob ex2)
  go_cut [5] from 27 to 36 (fun s5 wx => s5 = .pointer (some ⟨w4.heap.size + 1, 0, none⟩) ∧ wx = World.drew ((w4.alloc (.cells (memValsR (List.replicate (cellsN l) (0, false))).toArray 93)).alloc (.cells #[.slice (some ead) l.length c, .slice (some ⟨w4.heap.size, 0, none⟩) (cellsN l) (cellsN l), .bool false, .int .i64 0] 56)))
  case first =>
   go_region
   all_goals
    go_wp2_with fail
    go_meet
    case rel => exact ⟨rfl, rfl⟩
  case rest =>
  obtain ⟨rfl, rfl⟩ := hcut
  have HR4 := Aside0.mk ((rat_newR (some ead) c l HB.out HN.out).below' (below_drew1 (Below.refl _ _)))
  clear hmk hw1 hw2 bx0 b1 ex2 ex3 HB BX
  generalize World.drew ((w4.alloc (.cells (memValsR (List.replicate (cellsN l) (0, false))).toArray 93)).alloc (.cells #[.slice (some ead) l.length c, .slice (some ⟨w4.heap.size, 0, none⟩) (cellsN l) (cellsN l), .bool false, .int .i64 0] 56)) = w5 at HR4 ⊢
  generalize w4.heap.size = g4 at HR4 ⊢
  have han := ranew_calls l HOK.out (by omega) w (g4 + 1) ⟨g4, 0, none⟩ (some ead) c (cellsN l) false 0 HC0.out l.length v 0 (List.replicate (cellsN l) (0, false)) w5 HR4.out hv0 hv1 hv1
  have HCD := Aside0.mk (show 0 ≤ (0 : Int) ∧ (0 : Int) ≤ ((cellsN l : Nat) : Int) ∧ (l.getD v.toNat zFF).cells ≤ ((cellsN l : Nat) : Int) - 0 by have h1 := HCN.out; have h2 := HFO.out.c0; rw [Yx.out]; omega)
  skip
  go_wp2_with fail
  refine han.mono ?_
  rintro e w6 ⟨hp, _, _⟩
  obtain ⟨rfl, hR6⟩ := hp HCD.out
  have HR6 := Aside0.mk hR6
  clear hp hR6 han
  go_wp2_with fail
  go_ret2
  exact .inr ⟨HE.out, _, _, rfl, HVV.out ▸ HR6.out⟩
def bor64 (a b : Int) : Int := IntKind.i64.wrap (BitVec.ofInt 64 a ||| BitVec.ofInt 64 b).toNat
def divB (a b : Int) : Bool := (b != 0) && ((b != -1) || (a != wrap64 (-a)))
def arithV (n : Nat) (a b : Int) : Int :=
 if n = 188 then wrap64 (a + b) else if n = 189 then wrap64 (a - b) else if n = 190 then wrap64 (a * b) else if n = 191 then (if divB a b then wrap64 (a.tdiv b) else 0) else (if divB a b then a.tmod b else 0)
def cmpV (n : Nat) (a b : Int) : Bool :=
 if n = 195 then decide (a < b) else if n = 196 then decide (a ≤ b) else if n = 197 then (a == b) else if n = 198 then (a != b) else if n = 199 then ((a != 0) && (b != 0)) else (bor64 a b != 0)
def binV (s : ByteArray) (a b : Int) : Int × Int :=
 match opNum s with
 | none => (0, 10)
 | some n => (if arithB n then arithV n a b else if cmpV n a b then 1 else 0, 0)
theorem divides_calls (a b : Int) (w : World) : Calls Tryz.prog 192 #[.int .i64 a, .int .i64 b] w fun e w' => e = .returned (.bool (divB a b)) ∧ w' = w := by
 unfold divB
 cases h0 : (b != 0) with
 | false =>
  go_enter Tryz.func192, Tryz.ntmps192
  go_wp2_with fail
  go_ret
  exact ⟨rfl, rfl⟩
 | true =>
  cases h1 : (b != -1) with
  | true =>
   go_enter Tryz.func192, Tryz.ntmps192
   go_wp2_with fail
   go_ret
   exact ⟨rfl, rfl⟩
  | false =>
   cases h2 : (a != wrap64 (-a)) with
   | false =>
    go_enter Tryz.func192, Tryz.ntmps192
    go_wp2_with fail
    go_ret
    exact ⟨rfl, rfl⟩
   | true =>
    go_enter Tryz.func192, Tryz.ntmps192
    go_wp2_with fail
    go_ret
    exact ⟨rfl, rfl⟩
theorem of1_calls (a b : Int) (w : World) : Calls Tryz.prog 188 #[.int .i64 a, .int .i64 b] w fun e w' => e = .returned (.int .i64 (wrap64 (a + b))) ∧ w' = w := by
 go_enter Tryz.func188, Tryz.ntmps188
 go_wp2_with fail
 go_ret
 exact ⟨rfl, rfl⟩
theorem of2_calls (a b : Int) (w : World) : Calls Tryz.prog 189 #[.int .i64 a, .int .i64 b] w fun e w' => e = .returned (.int .i64 (wrap64 (a - b))) ∧ w' = w := by
 go_enter Tryz.func189, Tryz.ntmps189
 go_wp2_with fail
 go_ret
 exact ⟨rfl, rfl⟩
theorem of3_calls (a b : Int) (w : World) : Calls Tryz.prog 190 #[.int .i64 a, .int .i64 b] w fun e w' => e = .returned (.int .i64 (wrap64 (a * b))) ∧ w' = w := by
 go_enter Tryz.func190, Tryz.ntmps190
 go_wp2_with fail
 go_ret
 exact ⟨rfl, rfl⟩
theorem of4_calls (a b : Int) (w : World) : Calls Tryz.prog 191 #[.int .i64 a, .int .i64 b] w fun e w' => e = .returned (.int .i64 (if divB a b then wrap64 (a.tdiv b) else 0)) ∧ w' = w := by
 have hd := divides_calls a b
 cases h : divB a b with
 | false =>
  rw [h] at hd
  show Calls _ _ _ _ fun e w' => e = .returned (.int .i64 0) ∧ w' = w
  go_enter Tryz.func191, Tryz.ntmps191
  go_wp2_with fail
  refine (hd w).mono ?_
  rintro e w1 ⟨rfl, rfl⟩
  clear hd
  go_wp2_with fail
  go_ret
  exact ⟨rfl, rfl⟩
 | true =>
  rw [h] at hd
  have hb : ¬ b = 0 := by
   intro e
   unfold divB at h
   rw [e] at h
   simp at h
  show Calls _ _ _ _ fun e w' => e = .returned (.int .i64 (wrap64 (a.tdiv b))) ∧ w' = w
  go_enter Tryz.func191, Tryz.ntmps191
  go_wp2_with fail
  refine (hd w).mono ?_
  rintro e w1 ⟨rfl, rfl⟩
  clear hd
  go_wp2_with fail
  go_ret
  exact ⟨rfl, rfl⟩
theorem of5_calls (a b : Int) (w : World) : Calls Tryz.prog 193 #[.int .i64 a, .int .i64 b] w fun e w' => e = .returned (.int .i64 (if divB a b then a.tmod b else 0)) ∧ w' = w := by
 have hd := divides_calls a b
 cases h : divB a b with
 | false =>
  rw [h] at hd
  show Calls _ _ _ _ fun e w' => e = .returned (.int .i64 0) ∧ w' = w
  go_enter Tryz.func193, Tryz.ntmps193
  go_wp2_with fail
  refine (hd w).mono ?_
  rintro e w1 ⟨rfl, rfl⟩
  clear hd
  go_wp2_with fail
  go_ret
  exact ⟨rfl, rfl⟩
 | true =>
  rw [h] at hd
  have hb : ¬ b = 0 := by
   intro e
   unfold divB at h
   rw [e] at h
   simp at h
  show Calls _ _ _ _ fun e w' => e = .returned (.int .i64 (a.tmod b)) ∧ w' = w
  go_enter Tryz.func193, Tryz.ntmps193
  go_wp2_with fail
  refine (hd w).mono ?_
  rintro e w1 ⟨rfl, rfl⟩
  clear hd
  go_wp2_with fail
  go_ret
  exact ⟨rfl, rfl⟩
theorem of6_calls (a b : Int) (w : World) : Calls Tryz.prog 195 #[.int .i64 a, .int .i64 b] w fun e w' => e = .returned (.bool (decide (a < b))) ∧ w' = w := by
 go_enter Tryz.func195, Tryz.ntmps195
 go_wp2_with fail
 go_ret
 exact ⟨rfl, rfl⟩
theorem of7_calls (a b : Int) (w : World) : Calls Tryz.prog 196 #[.int .i64 a, .int .i64 b] w fun e w' => e = .returned (.bool (decide (a ≤ b))) ∧ w' = w := by
 go_enter Tryz.func196, Tryz.ntmps196
 go_wp2_with fail
 go_ret
 exact ⟨rfl, rfl⟩
theorem of8_calls (a b : Int) (w : World) : Calls Tryz.prog 197 #[.int .i64 a, .int .i64 b] w fun e w' => e = .returned (.bool (a == b)) ∧ w' = w := by
 go_enter Tryz.func197, Tryz.ntmps197
 go_wp2_with fail
 go_ret
 exact ⟨rfl, rfl⟩
theorem of9_calls (a b : Int) (w : World) : Calls Tryz.prog 198 #[.int .i64 a, .int .i64 b] w fun e w' => e = .returned (.bool ((a != b))) ∧ w' = w := by
 go_enter Tryz.func198, Tryz.ntmps198
 go_wp2_with fail
 go_ret
 exact ⟨rfl, rfl⟩
theorem of10_calls (a b : Int) (w : World) : Calls Tryz.prog 199 #[.int .i64 a, .int .i64 b] w fun e w' => e = .returned (.bool ((a != 0) && (b != 0))) ∧ w' = w := by
 cases h : (a != 0) with
 | false =>
  go_enter Tryz.func199, Tryz.ntmps199
  go_wp2_with fail
  go_ret
  exact ⟨rfl, rfl⟩
 | true =>
  go_enter Tryz.func199, Tryz.ntmps199
  go_wp2_with fail
  go_ret
  exact ⟨rfl, rfl⟩
theorem of11_calls (a b : Int) (w : World) : Calls Tryz.prog 200 #[.int .i64 a, .int .i64 b] w fun e w' => e = .returned (.bool ((bor64 a b != 0))) ∧ w' = w := by
 go_enter Tryz.func200, Tryz.ntmps200
 go_wp2_with fail
 go_ret
 exact ⟨rfl, rfl⟩
def truV (b : Bool) : Int := if b then 1 else 0
theorem truth_calls (b : Bool) (w : World) : Calls Tryz.prog 167 #[.bool b] w fun e w' => e = .returned (.int .i64 (truV b)) ∧ w' = w := by
 cases b
 ·show Calls _ _ _ _ fun e w' => e = .returned (.int .i64 0) ∧ w' = w
  go_enter Tryz.func167, Tryz.ntmps167
  go_wp2_with fail
  go_ret
  exact ⟨rfl, rfl⟩
 ·show Calls _ _ _ _ fun e w' => e = .returned (.int .i64 1) ∧ w' = w
  go_enter Tryz.func167, Tryz.ntmps167
  go_wp2_with fail
  go_ret
  exact ⟨rfl, rfl⟩
def unV (s : ByteArray) (a : Int) : Int × Int := if s.toList == ([45] : List UInt8) then (wrap64 (-a), 0) else if s.toList == ([110, 111, 116] : List UInt8) then (truV (a == 0), 0) else (0, 10)
theorem un_calls (s : ByteArray) (a : Int) (w : World) : Calls Tryz.prog 140 #[.string s, .int .i64 a] w fun e w' => e = .returned (.tuple #[.int .i64 (unV s a).1, .int .i64 (unV s a).2]) ∧ w' = w := by
 cases h1 : (s.toList == ([45] : List UInt8)) with
 | true =>
  have hv : unV s a = (wrap64 (-a), 0) := by unfold unV; rw [h1]; rfl
  rw [hv]
  clear hv
  go_enter Tryz.func140, Tryz.ntmps140
  go_wp2_with fail
  go_ret2
  exact ⟨rfl, rfl⟩
 | false =>
  cases h2 : (s.toList == ([110, 111, 116] : List UInt8)) with
  | true =>
   have hv : unV s a = (truV (a == 0), 0) := by unfold unV; rw [h1, h2]; rfl
   rw [hv]
   have ht := truth_calls (a == 0)
   generalize truV (a == 0) = t at ht ⊢
   clear hv
   go_enter Tryz.func140, Tryz.ntmps140
   go_wp2_with fail
   refine (ht w).mono ?_
   rintro e w1 ⟨rfl, rfl⟩
   clear ht
   go_wp2_with fail
   go_ret2
   exact ⟨rfl, rfl⟩
  | false =>
   have hv : unV s a = (0, 10) := by unfold unV; rw [h1, h2]; rfl
   rw [hv]
   clear hv
   go_enter Tryz.func140, Tryz.ntmps140
   go_wp2_with fail
   go_ret2
   exact ⟨rfl, rfl⟩
def Enters (n : Nat) : Prop := ∀ args w, (callFunc n args).run Tryz.prog w = .ok (.enter n args) w
theorem arith_calls (n : Nat) (hn : arithB n = true) : Enters n ∧ ∀ (a b : Int) (w : World), Calls Tryz.prog n #[.int .i64 a, .int .i64 b] w fun e w' => e = .returned (.int .i64 (arithV n a b)) ∧ w' = w := by
 unfold arithB at hn
 simp only [List.contains_cons, List.contains_nil, Bool.or_false, Bool.or_eq_true, beq_iff_eq] at hn
 rcases hn with rfl | rfl | rfl | rfl | rfl
 ·exact ⟨enters_of Tryz.func188 (by kernel_rfl) rfl, of1_calls⟩
 ·exact ⟨enters_of Tryz.func189 (by kernel_rfl) rfl, of2_calls⟩
 ·exact ⟨enters_of Tryz.func190 (by kernel_rfl) rfl, of3_calls⟩
 ·exact ⟨enters_of Tryz.func191 (by kernel_rfl) rfl, of4_calls⟩
 ·exact ⟨enters_of Tryz.func193 (by kernel_rfl) rfl, of5_calls⟩
def cmpB (n : Nat) : Bool := [195, 196, 197, 198, 199, 200].contains n
theorem cmp_calls (n : Nat) (hn : cmpB n = true) : Enters n ∧ ∀ (a b : Int) (w : World), Calls Tryz.prog n #[.int .i64 a, .int .i64 b] w fun e w' => e = .returned (.bool (cmpV n a b)) ∧ w' = w := by
 unfold cmpB at hn
 simp only [List.contains_cons, List.contains_nil, Bool.or_false, Bool.or_eq_true, beq_iff_eq] at hn
 rcases hn with rfl | rfl | rfl | rfl | rfl | rfl
 ·exact ⟨enters_of Tryz.func195 (by kernel_rfl) rfl, of6_calls⟩
 ·exact ⟨enters_of Tryz.func196 (by kernel_rfl) rfl, of7_calls⟩
 ·exact ⟨enters_of Tryz.func197 (by kernel_rfl) rfl, of8_calls⟩
 ·exact ⟨enters_of Tryz.func198 (by kernel_rfl) rfl, of9_calls⟩
 ·exact ⟨enters_of Tryz.func199 (by kernel_rfl) rfl, of10_calls⟩
 ·exact ⟨enters_of Tryz.func200 (by kernel_rfl) rfl, of11_calls⟩
theorem opNum_kind {s : ByteArray} {n : Nat} (h : opNum s = some n) : arithB n = true ∨ cmpB n = true := by
 unfold opNum at h
 obtain ⟨x, hx, rfl⟩ := Option.map_eq_some_iff.1 h
 have hm := List.mem_of_find?_eq_some hx
 have hall : (opTab.all fun x => arithB x.2 || cmpB x.2) = true := by decide
 have := List.all_eq_true.1 hall x hm
 rwa [Bool.or_eq_true] at this
theorem compares1_calls (n : Nat) (hn : cmpB n = true) (a b : Int) (bk : Nat) (w : World) (hb : w.heap[bk]? = some (.cells #[.func (.func n) #[] #[]] 217 (0, 0))) :
  Calls Tryz.prog 218 #[.int .i64 a, .int .i64 b, .pointer (some ⟨bk, 0, none⟩)] w fun e w' => e = .returned (.int .i64 (truV (cmpV n a b))) ∧ w' = w := by
 obtain ⟨en, hc⟩ := cmp_calls n hn
 have x0 := (blk_cell hb 0).trans rfl
 have hcc := hc a b
 have ht := truth_calls (cmpV n a b)
 clear hb hc hn
 generalize cmpV n a b = q at hcc ht ⊢
 generalize truV q = t at ht ⊢
 unfold Enters at en
 go_enter Tryz.func218, Tryz.ntmps218
 go_wp2_with (go_at_fn n; refine (hcc w).mono ?_; rintro e w1 ⟨rfl, rfl⟩; clear hcc)
 refine (ht _).mono ?_
 rintro e w1 ⟨rfl, rfl⟩
 clear ht
 go_wp2_with fail
 go_ret
 exact ⟨rfl, rfl⟩
theorem compares1_eg : Enters 218 := enters_of Tryz.func218 (by kernel_rfl) rfl
theorem binV_none {s : ByteArray} (h : opNum s = none) (a b : Int) : binV s a b = (0, 10) := by unfold binV; rw [h]
theorem binV_some {s : ByteArray} {n : Nat} (h : opNum s = some n) (a b : Int) : binV s a b = (if arithB n then arithV n a b else truV (cmpV n a b), 0) := by unfold binV; rw [h]; rfl
set_option maxHeartbeats 2000000 in
theorem bin_calls (s : ByteArray) (a b : Int) (w : World) : Calls Tryz.prog 141 #[.string s, .int .i64 a, .int .i64 b] w fun e w' => e = .returned (.tuple #[.int .i64 (binV s a b).1, .int .i64 (binV s a b).2]) ∧ Below w.heap.size w w' := by
 have hof := of_calls s w
 have hrn := fun W => run_eql_nilfunc W 210 Tryz.underlying210
 have hrf := fun W f c => run_eql_func W 210 f #[] c Tryz.underlying210
 obtain ⟨R, hR⟩ : ∃ R, binV s a b = R := ⟨_, rfl⟩
 rw [hR]
 have HR := Aside0.mk hR
 clear hR
 go_enter Tryz.func141, Tryz.ntmps141
 go_wp2_with fail
 refine hof.mono ?_
 rintro e w1 ⟨F, t1, t2, rfl, hop, hb⟩
 have HB := Aside0.mk hb
 clear hof hb
 rcases hop with ⟨h0, rfl⟩ | ⟨n, h0, h1, rfl⟩ | ⟨n, bk, h0, h1, rfl, h2⟩
 ·have HV := Aside0.mk (show R = (0, 10) by rw [← HR.out]; exact binV_none h0 a b)
  clear h0 hrf
  go_wp2_with ((with_reducible refine gate_store (t := 213) (p := 8) rfl ?_); refine store_whole rfl rfl 213 _ _ rfl w1.heap.size _ 213 rfl (blk_new _ _) _ rfl rfl rfl (by simp [Value.oneCell']) ?_; intro w2 hb2 hg2; replace HB := Aside0.mk (below_as HB.out hg2); have c0 := (blk_cell hb2 0).trans rfl; clear hb2 hg2)
  go_ret2
  exact ⟨by rw [HV.out]; rfl, HB.out⟩
 ·obtain ⟨en, hc⟩ := arith_calls n h1
  have HV := Aside0.mk (show R = (arithV n a b, 0) by rw [← HR.out, binV_some h0, h1]; rfl)
  have hcc := hc a b
  unfold Enters at en
  generalize arithV n a b = t at hcc HV
  clear h0 h1 hc hrn
  go_wp2_with (first | ((with_reducible refine gate_store (t := 213) (p := 8) rfl ?_); refine store_whole rfl rfl 213 _ _ rfl w1.heap.size _ 213 rfl (blk_new _ _) _ rfl rfl rfl (by simp [Value.oneCell']) ?_; intro w2 hb2 hg2; replace HB := Aside0.mk (below_as HB.out hg2); have c0 := (blk_cell hb2 0).trans rfl; clear hb2 hg2) | (go_at_fn n; refine (hcc _).mono ?_; rintro e w4 ⟨rfl, rfl⟩; clear hcc))
  go_ret2
  exact ⟨by rw [HV.out]; rfl, HB.out⟩
 ·have hk : cmpB n = true := by
   rcases opNum_kind h0 with h | h
   ·rw [h1] at h; cases h
   ·exact h
  have HV := Aside0.mk (show R = (truV (cmpV n a b), 0) by rw [← HR.out, binV_some h0, h1]; rfl)
  have hcc := fun (W : World) (hb : W.heap[bk]? = some (.cells #[.func (.func n) #[] #[]] 217 (0, 0))) => compares1_calls n hk a b bk W hb
  have en := compares1_eg
  unfold Enters at en
  generalize truV (cmpV n a b) = t at hcc HV
  have H2 := Aside0.mk h2
  clear h0 h1 h2 hk hrn
  go_wp2_with ((with_reducible refine gate_store (t := 213) (p := 8) rfl ?_); refine store_whole rfl rfl 213 _ _ rfl w1.heap.size _ 213 rfl (blk_new _ _) _ rfl rfl rfl (by simp [Value.oneCell']) ?_; intro w2 hb2 hg2; replace H2 := Aside0.mk (blk_as H2.out hg2); replace HB := Aside0.mk (below_as HB.out hg2); have c0 := (blk_cell hb2 0).trans rfl; clear hb2 hg2)
  refine (hcc _ H2.out).mono ?_
  rintro e w4 ⟨rfl, rfl⟩
  clear hcc
  go_wp2_with fail
  go_ret2
  exact ⟨by rw [HV.out]; rfl, HB.out⟩
end Go.Proofs.YticndoihkfbpoaaGreatDoor
