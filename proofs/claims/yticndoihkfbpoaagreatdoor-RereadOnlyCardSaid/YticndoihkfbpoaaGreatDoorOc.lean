/- Package emit: what expr and kid write. -/
import Derived.Test.YticndoihkfbpoaaGreatDoorOb
namespace Go.Proofs.YticndoihkfbpoaaGreatDoor
open Go Go.RowKit Go.Lib Go.Proofs.YticndoihkfbpoaaGreatDoorW.PrintWords Go.Proofs.YticndoihkfbpoaaGreatDoor.PScope
set_option maxRecDepth 100000
set_option linter.unusedSimpArgs false
set_option linter.unusedVariables false
attribute [local irreducible] wpStill
theorem kidC {w0 W : World} (hb : Below w0.heap.size w0 W) {A : Option Addr} {kids : List S38} (h : kE.C w0 A kids.length kids) (i : Nat) (hi : i < kids.length) (y : S38) (hy : kids.getD i z38 = y) :
  ∃ ad A3 c3 A4 c4, A = some ad ∧ kE.K w0 y [.int .i64 y.f0, .string y.f1, .int .i64 y.f2, .slice A3 y.f3.length c3, .slice A4 y.f4.length c4] ∧
   W.cell? (ad.add (i * 5)) = some (.int .i64 y.f0) ∧ W.cell? ⟨(ad.add (i * 5)).block, (ad.add (i * 5)).off + 1, none⟩ = some (.string y.f1) ∧ W.cell? ⟨(ad.add (i * 5)).block, (ad.add (i * 5)).off + 2, none⟩ = some (.int .i64 y.f2) ∧
   W.cell? ⟨(ad.add (i * 5)).block, (ad.add (i * 5)).off + 3, none⟩ = some (.slice A3 y.f3.length c3) ∧ W.cell? ⟨(ad.add (i * 5)).block, (ad.add (i * 5)).off + 4, none⟩ = some (.slice A4 y.f4.length c4) := by
 obtain ⟨ad, cs, rfl, _, K, cc⟩ := Kd.C_get h z38 (i : Int) (by omega) (by omega)
 rw [Int.toNat_natCast, hy] at K
 have K' := K
 obtain ⟨A3, c3, A4, c4, rfl, _⟩ := k38_open K'
 have x0 := (hb.cell (World.block_lt_of_cell? w0 _ (cc 0 _ rfl))).trans (cc 0 _ rfl)
 have x1 := (hb.cell (World.block_lt_of_cell? w0 _ (cc 1 _ rfl))).trans (cc 1 _ rfl)
 have x2 := (hb.cell (World.block_lt_of_cell? w0 _ (cc 2 _ rfl))).trans (cc 2 _ rfl)
 have x3 := (hb.cell (World.block_lt_of_cell? w0 _ (cc 3 _ rfl))).trans (cc 3 _ rfl)
 have x4 := (hb.cell (World.block_lt_of_cell? w0 _ (cc 4 _ rfl))).trans (cc 4 _ rfl)
 rw [show kE.sz = 5 from rfl, Nat.add_zero, Int.toNat_natCast] at x0
 rw [show kE.sz = 5 from rfl, Int.toNat_natCast, add_field _ _ 1 (by omega)] at x1
 rw [show kE.sz = 5 from rfl, Int.toNat_natCast, add_field _ _ 2 (by omega)] at x2
 rw [show kE.sz = 5 from rfl, Int.toNat_natCast, add_field _ _ 3 (by omega)] at x3
 rw [show kE.sz = 5 from rfl, Int.toNat_natCast, add_field _ _ 4 (by omega)] at x4
 exact ⟨ad, A3, c3, A4, c4, rfl, K, x0, x1, x2, x3, x4⟩
theorem getDm {α : Type} {l : List α} {i : Nat} (h : i < l.length) (d : α) : l.getD i d ∈ l := by
 rw [List.getD_eq_getElem?_getD, List.getElem?_eq_getElem h]
 exact List.getElem_mem h
theorem kidW_get {kids : List S38} {i : Nat} (h : i < kids.length) : kidW (kids.map wE) i = wE (kids.getD i z38) := by
 unfold kidW
 rw [List.getD_eq_getElem?_getD, List.getElem?_map, List.getD_eq_getElem?_getD, List.getElem?_eq_getElem h]
 rfl
theorem kidW_none {kids : List S38} {i : Nat} (h : ¬ i < kids.length) : kidW (kids.map wE) i = [qmS] := by
 unfold kidW
 rw [List.getD_eq_getElem?_getD, List.getElem?_map, List.getElem?_eq_none (by omega)]
 rfl
section
variable {w0 : World} {gp : Nat}
def ESays (w0 : World) (gp : Nat) (x : S38) : Prop :=
 ∀ (w : World) (v : Value) (ws : List ByteArray) (cs : List Value), PrAt 111 w0 w gp v ws → kE.K w0 x cs → ws.length + (wE x).length ≤ 8796093022208 → Calls Tryz.prog 162 #[.pointer (some ⟨gp, 0, none⟩), .agg cs.toArray] w (PrPost 111 w0 gp v ws (wE x) w)
set_option maxHeartbeats 2000000 in
theorem kid_calls (op n : Int) (nm : ByteArray) (xs : List ByteArray) (kids : List S38) (ih : ∀ y ∈ kids, ESays w0 gp y) (A3 : Option Addr) (c3 : Nat) (A4 : Option Addr) (c4 : Nat) (hC : kE.C w0 A4 kids.length kids) (k : Nat) (i : Int) (hi : i = (k : Int)) (w : World) (v : Value) (ws : List ByteArray) (h : PrAt 111 w0 w gp v ws) (hl : ws.length + (kidW (kids.map wE) k).length ≤ 8796093022208) :
  Calls Tryz.prog 185 #[.pointer (some ⟨gp, 0, none⟩), .agg #[.int .i64 op, .string nm, .int .i64 n, .slice A3 xs.length c3, .slice A4 kids.length c4], .int .i64 i] w (PrPost 111 w0 gp v ws (kidW (kids.map wE) k) w) := by
 subst hi
 have HC := Aside0.mk hC; have IH := Aside0.mk ih
 have hkm : kids.length ≤ 9223372036854775807 := hC.2.1
 clear hC ih
 by_cases hlt : k < kids.length
 ·have hge : decide ((k : Int) ≥ (kids.length : Int)) = false := decide_eq_false (by omega)
  have hltz : (k : Int) < (kids.length : Int) := by omega
  rw [kidW_get hlt] at hl ⊢
  obtain ⟨y, hy⟩ : ∃ y, kids.getD k z38 = y := ⟨_, rfl⟩
  have HY := Aside0.mk (IH.out y (by rw [← hy]; exact getDm hlt _))
  rw [hy] at hl ⊢
  have HLN := Aside0.mk hl
  clear hl
  have hba := below_alloc (Below.refl w.heap.size w) (.cells #[.int .i64 op, .string nm, .int .i64 n, .slice A3 xs.length c3, .slice A4 kids.length c4] 38)
  have B3 := Aside0.mk (blk_new w (.cells #[.int .i64 op, .string nm, .int .i64 n, .slice A3 xs.length c3, .slice A4 kids.length c4] 38))
  have HS := Aside0.mk ((PrSt.start h).below hba)
  have NG := Aside0.mk (show w.heap.size ≠ gp from by have := h.lt; omega)
  skip
  clear h hba
  go_enter Tryz.func185, Tryz.ntmps185
  go_upto_region 1 with fail
  generalize w.alloc (.cells #[.int .i64 op, .string nm, .int .i64 n, .slice A3 xs.length c3, .slice A4 kids.length c4] 38) = w1 at HS B3 ⊢
  obtain ⟨g3, hq⟩ : ∃ g3, w.heap.size = g3 := ⟨_, rfl⟩
  rw [hq] at B3 NG ⊢
  clear hq
  have c3_0 := (blk_cell B3.out 0).trans rfl
  have c3_1 := (blk_cell B3.out 1).trans rfl
  have c3_2 := (blk_cell B3.out 2).trans rfl
  have c3_3 := (blk_cell B3.out 3).trans rfl
  have c3_4 := (blk_cell B3.out 4).trans rfl
  obtain ⟨yad, yA3, yc3, yA4, yc4, hA4, yK, y0, y1, y2, y3, y4⟩ := kidC HS.out.at_.below HC.out k hlt y hy
  subst hA4
  have YK := Aside0.mk yK
  clear yK hy
  go_wp2_with fail
  refine (HY.out _ _ _ _ HS.out.at_ YK.out (by have := HLN.out; simp only [List.length_append, List.length_cons, List.length_nil] at this ⊢; omega)).mono ?_
  intro e w5 hp
  obtain ⟨rfl, v5, hst, _⟩ := HS.out.then hp
  replace HS := Aside0.mk hst
  clear hp hst c3_0 c3_1 c3_2 c3_3 c3_4 y0 y1 y2 y3 y4
  go_wp2_with fail
  go_end0
  exact HS.out.done rfl
 ·have hge : decide ((k : Int) ≥ (kids.length : Int)) = true := decide_eq_true (by omega)
  rw [kidW_none hlt] at hl ⊢
  have HLN := Aside0.mk hl
  clear hl
  have hba := below_alloc (Below.refl w.heap.size w) (.cells #[.int .i64 op, .string nm, .int .i64 n, .slice A3 xs.length c3, .slice A4 kids.length c4] 38)
  have B3 := Aside0.mk (blk_new w (.cells #[.int .i64 op, .string nm, .int .i64 n, .slice A3 xs.length c3, .slice A4 kids.length c4] 38))
  have HS := Aside0.mk ((PrSt.start h).below hba)
  have NG := Aside0.mk (show w.heap.size ≠ gp from by have := h.lt; omega)
  skip
  clear h hba
  go_enter Tryz.func185, Tryz.ntmps185
  go_upto_region 1 with fail
  generalize w.alloc (.cells #[.int .i64 op, .string nm, .int .i64 n, .slice A3 xs.length c3, .slice A4 kids.length c4] 38) = w1 at HS B3 ⊢
  obtain ⟨g3, hq⟩ : ∃ g3, w.heap.size = g3 := ⟨_, rfl⟩
  rw [hq] at B3 NG ⊢
  clear hq
  have c3_0 := (blk_cell B3.out 0).trans rfl
  have c3_1 := (blk_cell B3.out 1).trans rfl
  have c3_2 := (blk_cell B3.out 2).trans rfl
  have c3_3 := (blk_cell B3.out 3).trans rfl
  have c3_4 := (blk_cell B3.out 4).trans rfl
  go_wp2_with fail
  refine (eput_lits HS.out.at_ [qmS] (by simp) (by have := HLN.out; simp only [List.length_append, List.length_cons, List.length_nil] at this ⊢; omega) _ rfl 1 rfl).mono ?_
  intro e w11 hp
  obtain ⟨rfl, v11, hst, hk⟩ := HS.out.then hp
  replace B3 := Aside0.mk (HS.out.at_.apart B3.out NG.out (by decide) hk)
  replace HS := Aside0.mk hst
  clear hp hst hk c3_0 c3_1 c3_2 c3_3 c3_4
  have c3_0 := (blk_cell B3.out 0).trans rfl
  have c3_1 := (blk_cell B3.out 1).trans rfl
  have c3_2 := (blk_cell B3.out 2).trans rfl
  have c3_3 := (blk_cell B3.out 3).trans rfl
  have c3_4 := (blk_cell B3.out 4).trans rfl
  go_wp2_with fail
  go_end0
  exact HS.out.done rfl
set_option maxHeartbeats 4000000 in
theorem expr_mem (nm : ByteArray) (n : Int) (xs : List ByteArray) (kids : List S38) (hL : LaidR w0) (h0 : -9223372036854775808 ≤ n) (h1 : n ≤ 9223372036854775807) (ih : ∀ y ∈ kids, ESays w0 gp y) (hz : (showW 16 nm n).size ≤ 140737488355328) : ESays w0 gp ⟨16, nm, n, xs, kids⟩ := by
 intro w v ws cs h hK hl
 obtain ⟨A3, c3, A4, c4, rfl, _, _, _, g4⟩ := k38_open hK
 have HKID := Aside0.mk (kid_calls (w0 := w0) (gp := gp) 16 n nm xs kids ih A3 c3 A4 c4 g4)
 have HLW := Aside0.mk (hL.below h.below)
 rw [wE_eq] at hl ⊢
 simp only [] at hl ⊢
 generalize kids.map wE = ks at hl HKID ⊢
 have HLN := Aside0.mk (show ws.length + ([memS, sqoS, itoaB n, sqcS]).length ≤ 8796093022208 from hl)
 have hgoal : exW 16 nm n ks = [memS, sqoS, itoaB n, sqcS] := rfl
 rw [hgoal]
 clear hl hK g4 ih hgoal hL
 have hba := below_alloc (Below.refl w.heap.size w) (.cells #[.int .i64 16, .string nm, .int .i64 n, .slice A3 xs.length c3, .slice A4 kids.length c4] 38)
 have B3 := Aside0.mk (blk_new w (.cells #[.int .i64 16, .string nm, .int .i64 n, .slice A3 xs.length c3, .slice A4 kids.length c4] 38))
 have HS := Aside0.mk ((PrSt.start h).below hba); have HBW := Aside0.mk hba
 have NG := Aside0.mk (show w.heap.size ≠ gp from by have := h.lt; omega)
 have HI := Aside0.mk (fun W (hW : Below w.heap.size w W) => fmt_calls n h0 h1 W (HLW.out.below hW))
 clear h hba
 go_enter Tryz.func162, Tryz.ntmps162
 go_upto_region 1 with fail
 generalize w.alloc (.cells #[.int .i64 16, .string nm, .int .i64 n, .slice A3 xs.length c3, .slice A4 kids.length c4] 38) = w1 at HS B3 HBW ⊢
 obtain ⟨g3, hq⟩ : ∃ g3, w.heap.size = g3 := ⟨_, rfl⟩
 rw [hq] at B3 NG ⊢
 clear hq
 have c3_0 := (blk_cell B3.out 0).trans rfl
 have c3_1 := (blk_cell B3.out 1).trans rfl
 have c3_2 := (blk_cell B3.out 2).trans rfl
 have c3_3 := (blk_cell B3.out 3).trans rfl
 have c3_4 := (blk_cell B3.out 4).trans rfl
 go_wp2_with fail
 refine (HI.out _ HBW.out).mono ?_
 rintro e w5 ⟨rfl, hb⟩
 replace B3 := Aside0.mk (below_blk B3.out hb)
 replace HS := Aside0.mk (HS.out.below hb)
 clear hb HI HBW
 go_wp2_with fail
 refine (eput_lits HS.out.at_ [memS, sqoS, itoaB n, sqcS] (by simp) (by have := HLN.out; simp only [List.length_append, List.length_cons, List.length_nil] at this ⊢; omega) _ rfl 4 rfl).mono ?_
 intro e w12 hp
 obtain ⟨rfl, v12, hst, hk⟩ := HS.out.then hp
 replace B3 := Aside0.mk (HS.out.at_.apart B3.out NG.out (by decide) hk)
 replace HS := Aside0.mk hst
 clear hp hst hk c3_0 c3_1 c3_2 c3_3 c3_4
 have c3_0 := (blk_cell B3.out 0).trans rfl
 have c3_1 := (blk_cell B3.out 1).trans rfl
 have c3_2 := (blk_cell B3.out 2).trans rfl
 have c3_3 := (blk_cell B3.out 3).trans rfl
 have c3_4 := (blk_cell B3.out 4).trans rfl
 go_wp2_with fail
 go_end0
 exact HS.out.done rfl
set_option maxHeartbeats 4000000 in
theorem expr_un (nm : ByteArray) (n : Int) (xs : List ByteArray) (kids : List S38) (hL : LaidR w0) (h0 : -9223372036854775808 ≤ n) (h1 : n ≤ 9223372036854775807) (ih : ∀ y ∈ kids, ESays w0 gp y) (hz : (showW 5 nm n).size ≤ 140737488355328) : ESays w0 gp ⟨5, nm, n, xs, kids⟩ := by
 intro w v ws cs h hK hl
 obtain ⟨A3, c3, A4, c4, rfl, _, _, _, g4⟩ := k38_open hK
 have HKID := Aside0.mk (kid_calls (w0 := w0) (gp := gp) 5 n nm xs kids ih A3 c3 A4 c4 g4)
 have HLW := Aside0.mk (hL.below h.below)
 rw [wE_eq] at hl ⊢
 simp only [] at hl ⊢
 generalize kids.map wE = ks at hl HKID ⊢
 have HLN := Aside0.mk (show ws.length + ([opnS, nm] ++ kidW ks 0 ++ [clsS]).length ≤ 8796093022208 from hl)
 have hgoal : exW 5 nm n ks = [opnS, nm] ++ kidW ks 0 ++ [clsS] := rfl
 rw [hgoal]
 clear hl hK g4 ih hgoal hL
 have hba := below_alloc (Below.refl w.heap.size w) (.cells #[.int .i64 5, .string nm, .int .i64 n, .slice A3 xs.length c3, .slice A4 kids.length c4] 38)
 have B3 := Aside0.mk (blk_new w (.cells #[.int .i64 5, .string nm, .int .i64 n, .slice A3 xs.length c3, .slice A4 kids.length c4] 38))
 have HS := Aside0.mk ((PrSt.start h).below hba)
 have NG := Aside0.mk (show w.heap.size ≠ gp from by have := h.lt; omega)
 skip
 clear h hba
 go_enter Tryz.func162, Tryz.ntmps162
 go_upto_region 1 with fail
 generalize w.alloc (.cells #[.int .i64 5, .string nm, .int .i64 n, .slice A3 xs.length c3, .slice A4 kids.length c4] 38) = w1 at HS B3 ⊢
 obtain ⟨g3, hq⟩ : ∃ g3, w.heap.size = g3 := ⟨_, rfl⟩
 rw [hq] at B3 NG ⊢
 clear hq
 have c3_0 := (blk_cell B3.out 0).trans rfl
 have c3_1 := (blk_cell B3.out 1).trans rfl
 have c3_2 := (blk_cell B3.out 2).trans rfl
 have c3_3 := (blk_cell B3.out 3).trans rfl
 have c3_4 := (blk_cell B3.out 4).trans rfl
 go_wp2_with fail
 refine (eput_lits HS.out.at_ [opnS, nm] (by simp) (by have := HLN.out; simp only [List.length_append, List.length_cons, List.length_nil] at this ⊢; omega) _ rfl 2 rfl).mono ?_
 intro e w13 hp
 obtain ⟨rfl, v13, hst, hk⟩ := HS.out.then hp
 replace B3 := Aside0.mk (HS.out.at_.apart B3.out NG.out (by decide) hk)
 replace HS := Aside0.mk hst
 clear hp hst hk c3_0 c3_1 c3_2 c3_3 c3_4
 have c3_0 := (blk_cell B3.out 0).trans rfl
 have c3_1 := (blk_cell B3.out 1).trans rfl
 have c3_2 := (blk_cell B3.out 2).trans rfl
 have c3_3 := (blk_cell B3.out 3).trans rfl
 have c3_4 := (blk_cell B3.out 4).trans rfl
 go_wp2_with fail
 refine (HKID.out 0 _ rfl _ _ _ HS.out.at_ (by have := HLN.out; simp only [List.length_append, List.length_cons, List.length_nil] at this ⊢; omega)).mono ?_
 intro e w14 hp
 obtain ⟨rfl, v14, hst, hk⟩ := HS.out.then hp
 replace B3 := Aside0.mk (HS.out.at_.apart B3.out NG.out (by decide) hk)
 replace HS := Aside0.mk hst
 clear hp hst hk c3_0 c3_1 c3_2 c3_3 c3_4
 have c3_0 := (blk_cell B3.out 0).trans rfl
 have c3_1 := (blk_cell B3.out 1).trans rfl
 have c3_2 := (blk_cell B3.out 2).trans rfl
 have c3_3 := (blk_cell B3.out 3).trans rfl
 have c3_4 := (blk_cell B3.out 4).trans rfl
 go_wp2_with fail
 refine (eput_lits HS.out.at_ [clsS] (by simp) (by have := HLN.out; simp only [List.length_append, List.length_cons, List.length_nil] at this ⊢; omega) _ rfl 1 rfl).mono ?_
 intro e w15 hp
 obtain ⟨rfl, v15, hst, hk⟩ := HS.out.then hp
 replace B3 := Aside0.mk (HS.out.at_.apart B3.out NG.out (by decide) hk)
 replace HS := Aside0.mk hst
 clear hp hst hk c3_0 c3_1 c3_2 c3_3 c3_4
 have c3_0 := (blk_cell B3.out 0).trans rfl
 have c3_1 := (blk_cell B3.out 1).trans rfl
 have c3_2 := (blk_cell B3.out 2).trans rfl
 have c3_3 := (blk_cell B3.out 3).trans rfl
 have c3_4 := (blk_cell B3.out 4).trans rfl
 go_wp2_with fail
 go_end0
 exact HS.out.done rfl
set_option maxHeartbeats 4000000 in
theorem expr_bin (nm : ByteArray) (n : Int) (xs : List ByteArray) (kids : List S38) (hL : LaidR w0) (h0 : -9223372036854775808 ≤ n) (h1 : n ≤ 9223372036854775807) (ih : ∀ y ∈ kids, ESays w0 gp y) (hz : (showW 6 nm n).size ≤ 140737488355328) : ESays w0 gp ⟨6, nm, n, xs, kids⟩ := by
 intro w v ws cs h hK hl
 obtain ⟨A3, c3, A4, c4, rfl, _, _, _, g4⟩ := k38_open hK
 have HKID := Aside0.mk (kid_calls (w0 := w0) (gp := gp) 6 n nm xs kids ih A3 c3 A4 c4 g4)
 have HLW := Aside0.mk (hL.below h.below)
 rw [wE_eq] at hl ⊢
 simp only [] at hl ⊢
 generalize kids.map wE = ks at hl HKID ⊢
 have HLN := Aside0.mk (show ws.length + ([opnS] ++ kidW ks 0 ++ [nm] ++ kidW ks 1 ++ [clsS]).length ≤ 8796093022208 from hl)
 have hgoal : exW 6 nm n ks = [opnS] ++ kidW ks 0 ++ [nm] ++ kidW ks 1 ++ [clsS] := rfl
 rw [hgoal]
 clear hl hK g4 ih hgoal hL
 have hba := below_alloc (Below.refl w.heap.size w) (.cells #[.int .i64 6, .string nm, .int .i64 n, .slice A3 xs.length c3, .slice A4 kids.length c4] 38)
 have B3 := Aside0.mk (blk_new w (.cells #[.int .i64 6, .string nm, .int .i64 n, .slice A3 xs.length c3, .slice A4 kids.length c4] 38))
 have HS := Aside0.mk ((PrSt.start h).below hba)
 have NG := Aside0.mk (show w.heap.size ≠ gp from by have := h.lt; omega)
 skip
 clear h hba
 go_enter Tryz.func162, Tryz.ntmps162
 go_upto_region 1 with fail
 generalize w.alloc (.cells #[.int .i64 6, .string nm, .int .i64 n, .slice A3 xs.length c3, .slice A4 kids.length c4] 38) = w1 at HS B3 ⊢
 obtain ⟨g3, hq⟩ : ∃ g3, w.heap.size = g3 := ⟨_, rfl⟩
 rw [hq] at B3 NG ⊢
 clear hq
 have c3_0 := (blk_cell B3.out 0).trans rfl
 have c3_1 := (blk_cell B3.out 1).trans rfl
 have c3_2 := (blk_cell B3.out 2).trans rfl
 have c3_3 := (blk_cell B3.out 3).trans rfl
 have c3_4 := (blk_cell B3.out 4).trans rfl
 go_wp2_with fail
 refine (eput_lits HS.out.at_ [opnS] (by simp) (by have := HLN.out; simp only [List.length_append, List.length_cons, List.length_nil] at this ⊢; omega) _ rfl 1 rfl).mono ?_
 intro e w16 hp
 obtain ⟨rfl, v16, hst, hk⟩ := HS.out.then hp
 replace B3 := Aside0.mk (HS.out.at_.apart B3.out NG.out (by decide) hk)
 replace HS := Aside0.mk hst
 clear hp hst hk c3_0 c3_1 c3_2 c3_3 c3_4
 have c3_0 := (blk_cell B3.out 0).trans rfl
 have c3_1 := (blk_cell B3.out 1).trans rfl
 have c3_2 := (blk_cell B3.out 2).trans rfl
 have c3_3 := (blk_cell B3.out 3).trans rfl
 have c3_4 := (blk_cell B3.out 4).trans rfl
 go_wp2_with fail
 refine (HKID.out 0 _ rfl _ _ _ HS.out.at_ (by have := HLN.out; simp only [List.length_append, List.length_cons, List.length_nil] at this ⊢; omega)).mono ?_
 intro e w17 hp
 obtain ⟨rfl, v17, hst, hk⟩ := HS.out.then hp
 replace B3 := Aside0.mk (HS.out.at_.apart B3.out NG.out (by decide) hk)
 replace HS := Aside0.mk hst
 clear hp hst hk c3_0 c3_1 c3_2 c3_3 c3_4
 have c3_0 := (blk_cell B3.out 0).trans rfl
 have c3_1 := (blk_cell B3.out 1).trans rfl
 have c3_2 := (blk_cell B3.out 2).trans rfl
 have c3_3 := (blk_cell B3.out 3).trans rfl
 have c3_4 := (blk_cell B3.out 4).trans rfl
 go_wp2_with fail
 refine (eput_lits HS.out.at_ [nm] (by simp) (by have := HLN.out; simp only [List.length_append, List.length_cons, List.length_nil] at this ⊢; omega) _ rfl 1 rfl).mono ?_
 intro e w18 hp
 obtain ⟨rfl, v18, hst, hk⟩ := HS.out.then hp
 replace B3 := Aside0.mk (HS.out.at_.apart B3.out NG.out (by decide) hk)
 replace HS := Aside0.mk hst
 clear hp hst hk c3_0 c3_1 c3_2 c3_3 c3_4
 have c3_0 := (blk_cell B3.out 0).trans rfl
 have c3_1 := (blk_cell B3.out 1).trans rfl
 have c3_2 := (blk_cell B3.out 2).trans rfl
 have c3_3 := (blk_cell B3.out 3).trans rfl
 have c3_4 := (blk_cell B3.out 4).trans rfl
 go_wp2_with fail
 refine (HKID.out 1 _ rfl _ _ _ HS.out.at_ (by have := HLN.out; simp only [List.length_append, List.length_cons, List.length_nil] at this ⊢; omega)).mono ?_
 intro e w19 hp
 obtain ⟨rfl, v19, hst, hk⟩ := HS.out.then hp
 replace B3 := Aside0.mk (HS.out.at_.apart B3.out NG.out (by decide) hk)
 replace HS := Aside0.mk hst
 clear hp hst hk c3_0 c3_1 c3_2 c3_3 c3_4
 have c3_0 := (blk_cell B3.out 0).trans rfl
 have c3_1 := (blk_cell B3.out 1).trans rfl
 have c3_2 := (blk_cell B3.out 2).trans rfl
 have c3_3 := (blk_cell B3.out 3).trans rfl
 have c3_4 := (blk_cell B3.out 4).trans rfl
 go_wp2_with fail
 refine (eput_lits HS.out.at_ [clsS] (by simp) (by have := HLN.out; simp only [List.length_append, List.length_cons, List.length_nil] at this ⊢; omega) _ rfl 1 rfl).mono ?_
 intro e w20 hp
 obtain ⟨rfl, v20, hst, hk⟩ := HS.out.then hp
 replace B3 := Aside0.mk (HS.out.at_.apart B3.out NG.out (by decide) hk)
 replace HS := Aside0.mk hst
 clear hp hst hk c3_0 c3_1 c3_2 c3_3 c3_4
 have c3_0 := (blk_cell B3.out 0).trans rfl
 have c3_1 := (blk_cell B3.out 1).trans rfl
 have c3_2 := (blk_cell B3.out 2).trans rfl
 have c3_3 := (blk_cell B3.out 3).trans rfl
 have c3_4 := (blk_cell B3.out 4).trans rfl
 go_wp2_with fail
 go_end0
 exact HS.out.done rfl
set_option maxHeartbeats 4000000 in
theorem expr_show1 (nm : ByteArray) (n : Int) (xs : List ByteArray) (kids : List S38) (hL : LaidR w0) (h0 : -9223372036854775808 ≤ n) (h1 : n ≤ 9223372036854775807) (ih : ∀ y ∈ kids, ESays w0 gp y) (hz : (showW 1 nm n).size ≤ 140737488355328) : ESays w0 gp ⟨1, nm, n, xs, kids⟩ := by
 intro w v ws cs h hK hl
 obtain ⟨A3, c3, A4, c4, rfl, _, _, _, g4⟩ := k38_open hK
 have HKID := Aside0.mk (kid_calls (w0 := w0) (gp := gp) 1 n nm xs kids ih A3 c3 A4 c4 g4)
 have HLW := Aside0.mk (hL.below h.below)
 rw [wE_eq] at hl ⊢
 simp only [] at hl ⊢
 generalize kids.map wE = ks at hl HKID ⊢
 have HLN := Aside0.mk (show ws.length + ([showW 1 nm n]).length ≤ 8796093022208 from hl)
 have hgoal : exW 1 nm n ks = [showW 1 nm n] := rfl
 rw [hgoal]
 clear hl hK g4 ih hgoal hL
 have hba := below_alloc (Below.refl w.heap.size w) (.cells #[.int .i64 1, .string nm, .int .i64 n, .slice A3 xs.length c3, .slice A4 kids.length c4] 38)
 have B3 := Aside0.mk (blk_new w (.cells #[.int .i64 1, .string nm, .int .i64 n, .slice A3 xs.length c3, .slice A4 kids.length c4] 38))
 have HS := Aside0.mk ((PrSt.start h).below hba); have HBW := Aside0.mk hba
 have NG := Aside0.mk (show w.heap.size ≠ gp from by have := h.lt; omega)
 have HI := Aside0.mk (fun W (hW : Below w.heap.size w W) => show_calls (HLW.out.below hW) 1 nm n (by decide) h0 h1 (.slice A3 xs.length c3) (.slice A4 kids.length c4) hz)
 clear h hba
 go_enter Tryz.func162, Tryz.ntmps162
 go_upto_region 1 with fail
 generalize w.alloc (.cells #[.int .i64 1, .string nm, .int .i64 n, .slice A3 xs.length c3, .slice A4 kids.length c4] 38) = w1 at HS B3 HBW ⊢
 obtain ⟨g3, hq⟩ : ∃ g3, w.heap.size = g3 := ⟨_, rfl⟩
 rw [hq] at B3 NG ⊢
 clear hq
 have c3_0 := (blk_cell B3.out 0).trans rfl
 have c3_1 := (blk_cell B3.out 1).trans rfl
 have c3_2 := (blk_cell B3.out 2).trans rfl
 have c3_3 := (blk_cell B3.out 3).trans rfl
 have c3_4 := (blk_cell B3.out 4).trans rfl
 go_wp2_with fail
 refine (HI.out _ HBW.out).mono ?_
 rintro e w5 ⟨rfl, hb⟩
 replace B3 := Aside0.mk (below_blk B3.out hb)
 replace HS := Aside0.mk (HS.out.below hb)
 clear hb HI HBW
 go_wp2_with fail
 refine (eput_lits HS.out.at_ [showW 1 nm n] (by simp) (by have := HLN.out; simp only [List.length_append, List.length_cons, List.length_nil] at this ⊢; omega) _ rfl 1 rfl).mono ?_
 intro e w21 hp
 obtain ⟨rfl, v21, hst, hk⟩ := HS.out.then hp
 replace B3 := Aside0.mk (HS.out.at_.apart B3.out NG.out (by decide) hk)
 replace HS := Aside0.mk hst
 clear hp hst hk c3_0 c3_1 c3_2 c3_3 c3_4
 have c3_0 := (blk_cell B3.out 0).trans rfl
 have c3_1 := (blk_cell B3.out 1).trans rfl
 have c3_2 := (blk_cell B3.out 2).trans rfl
 have c3_3 := (blk_cell B3.out 3).trans rfl
 have c3_4 := (blk_cell B3.out 4).trans rfl
 go_wp2_with fail
 go_end0
 exact HS.out.done rfl
set_option maxHeartbeats 4000000 in
theorem expr_show4 (nm : ByteArray) (n : Int) (xs : List ByteArray) (kids : List S38) (hL : LaidR w0) (h0 : -9223372036854775808 ≤ n) (h1 : n ≤ 9223372036854775807) (ih : ∀ y ∈ kids, ESays w0 gp y) (hz : (showW 4 nm n).size ≤ 140737488355328) : ESays w0 gp ⟨4, nm, n, xs, kids⟩ := by
 intro w v ws cs h hK hl
 obtain ⟨A3, c3, A4, c4, rfl, _, _, _, g4⟩ := k38_open hK
 have HKID := Aside0.mk (kid_calls (w0 := w0) (gp := gp) 4 n nm xs kids ih A3 c3 A4 c4 g4)
 have HLW := Aside0.mk (hL.below h.below)
 rw [wE_eq] at hl ⊢
 simp only [] at hl ⊢
 generalize kids.map wE = ks at hl HKID ⊢
 have HLN := Aside0.mk (show ws.length + ([showW 4 nm n]).length ≤ 8796093022208 from hl)
 have hgoal : exW 4 nm n ks = [showW 4 nm n] := rfl
 rw [hgoal]
 clear hl hK g4 ih hgoal hL
 have hba := below_alloc (Below.refl w.heap.size w) (.cells #[.int .i64 4, .string nm, .int .i64 n, .slice A3 xs.length c3, .slice A4 kids.length c4] 38)
 have B3 := Aside0.mk (blk_new w (.cells #[.int .i64 4, .string nm, .int .i64 n, .slice A3 xs.length c3, .slice A4 kids.length c4] 38))
 have HS := Aside0.mk ((PrSt.start h).below hba); have HBW := Aside0.mk hba
 have NG := Aside0.mk (show w.heap.size ≠ gp from by have := h.lt; omega)
 have HI := Aside0.mk (fun W (hW : Below w.heap.size w W) => show_calls (HLW.out.below hW) 4 nm n (by decide) h0 h1 (.slice A3 xs.length c3) (.slice A4 kids.length c4) hz)
 clear h hba
 go_enter Tryz.func162, Tryz.ntmps162
 go_upto_region 1 with fail
 generalize w.alloc (.cells #[.int .i64 4, .string nm, .int .i64 n, .slice A3 xs.length c3, .slice A4 kids.length c4] 38) = w1 at HS B3 HBW ⊢
 obtain ⟨g3, hq⟩ : ∃ g3, w.heap.size = g3 := ⟨_, rfl⟩
 rw [hq] at B3 NG ⊢
 clear hq
 have c3_0 := (blk_cell B3.out 0).trans rfl
 have c3_1 := (blk_cell B3.out 1).trans rfl
 have c3_2 := (blk_cell B3.out 2).trans rfl
 have c3_3 := (blk_cell B3.out 3).trans rfl
 have c3_4 := (blk_cell B3.out 4).trans rfl
 go_wp2_with fail
 refine (HI.out _ HBW.out).mono ?_
 rintro e w5 ⟨rfl, hb⟩
 replace B3 := Aside0.mk (below_blk B3.out hb)
 replace HS := Aside0.mk (HS.out.below hb)
 clear hb HI HBW
 go_wp2_with fail
 refine (eput_lits HS.out.at_ [showW 4 nm n] (by simp) (by have := HLN.out; simp only [List.length_append, List.length_cons, List.length_nil] at this ⊢; omega) _ rfl 1 rfl).mono ?_
 intro e w22 hp
 obtain ⟨rfl, v22, hst, hk⟩ := HS.out.then hp
 replace B3 := Aside0.mk (HS.out.at_.apart B3.out NG.out (by decide) hk)
 replace HS := Aside0.mk hst
 clear hp hst hk c3_0 c3_1 c3_2 c3_3 c3_4
 have c3_0 := (blk_cell B3.out 0).trans rfl
 have c3_1 := (blk_cell B3.out 1).trans rfl
 have c3_2 := (blk_cell B3.out 2).trans rfl
 have c3_3 := (blk_cell B3.out 3).trans rfl
 have c3_4 := (blk_cell B3.out 4).trans rfl
 go_wp2_with fail
 go_end0
 exact HS.out.done rfl
def ifAcc (ks : List (List ByteArray)) : Nat → List ByteArray
 | 0 => []
 | 1 => [] ++ [opnS] ++ [ifS] ++ kidW ks 0
 | 2 => [] ++ [opnS] ++ [ifS] ++ kidW ks 0 ++ [thenS] ++ kidW ks 1
 | _ => [] ++ [opnS] ++ [ifS] ++ kidW ks 0 ++ [thenS] ++ kidW ks 1 ++ [elseS] ++ kidW ks 2
set_option maxHeartbeats 4000000 in
theorem expr_if (nm : ByteArray) (n : Int) (xs : List ByteArray) (kids : List S38) (hL : LaidR w0) (h0 : -9223372036854775808 ≤ n) (h1 : n ≤ 9223372036854775807) (ih : ∀ y ∈ kids, ESays w0 gp y) (hz : (showW 7 nm n).size ≤ 140737488355328) : ESays w0 gp ⟨7, nm, n, xs, kids⟩ := by
 intro w v ws cs h hK hl
 obtain ⟨A3, c3, A4, c4, rfl, _, _, _, g4⟩ := k38_open hK
 have HKID := Aside0.mk (kid_calls (w0 := w0) (gp := gp) 7 n nm xs kids ih A3 c3 A4 c4 g4)
 have HLW := Aside0.mk (hL.below h.below)
 rw [wE_eq] at hl ⊢
 simp only [] at hl ⊢
 generalize kids.map wE = ks at hl HKID ⊢
 have HLN := Aside0.mk (show ws.length + ([opnS] ++ [ifS] ++ kidW ks 0 ++ [thenS] ++ kidW ks 1 ++ [elseS] ++ kidW ks 2 ++ [clsS]).length ≤ 8796093022208 from hl)
 have hgoal : exW 7 nm n ks = [opnS] ++ [ifS] ++ kidW ks 0 ++ [thenS] ++ kidW ks 1 ++ [elseS] ++ kidW ks 2 ++ [clsS] := rfl
 rw [hgoal]
 clear hl hK g4 ih hgoal hL
 have hba := below_alloc (Below.refl w.heap.size w) (.cells #[.int .i64 7, .string nm, .int .i64 n, .slice A3 xs.length c3, .slice A4 kids.length c4] 38)
 have B3 := Aside0.mk (blk_new w (.cells #[.int .i64 7, .string nm, .int .i64 n, .slice A3 xs.length c3, .slice A4 kids.length c4] 38))
 have HS := Aside0.mk ((PrSt.start h).below hba)
 have NG := Aside0.mk (show w.heap.size ≠ gp from by have := h.lt; omega)
 skip
 clear h hba
 go_enter Tryz.func162, Tryz.ntmps162
 go_upto_region 1 with fail
 generalize w.alloc (.cells #[.int .i64 7, .string nm, .int .i64 n, .slice A3 xs.length c3, .slice A4 kids.length c4] 38) = w1 at HS B3 ⊢
 obtain ⟨g3, hq⟩ : ∃ g3, w.heap.size = g3 := ⟨_, rfl⟩
 rw [hq] at B3 NG ⊢
 clear hq
 have c3_0 := (blk_cell B3.out 0).trans rfl
 have c3_1 := (blk_cell B3.out 1).trans rfl
 have c3_2 := (blk_cell B3.out 2).trans rfl
 have c3_3 := (blk_cell B3.out 3).trans rfl
 have c3_4 := (blk_cell B3.out 4).trans rfl
 go_upto_region 16 with fail
 have HGL := Aside0.mk (show w1.heap.size ≠ gp from by have := HS.out.at_.lt; omega)
 have HVB := Aside0.mk (show (v.ownBlock = none ∨ ∃ b, v.ownBlock = some b ∧ b < w1.heap.size) from by
  cases hv : v.ownBlock with
  | none => exact .inl rfl
  | some b => exact .inr ⟨b, rfl, R_bound_lt HS.out.at_.row b hv⟩)
 have hba := below_alloc (Below.refl w1.heap.size w1) (.cells #[.string ⟨#[105, 102]⟩, .string ⟨#[116, 104, 101, 110]⟩, .string ⟨#[101, 108, 115, 101]⟩] 9)
 have BG := Aside0.mk (blk_new w1 (.cells #[.string ⟨#[105, 102]⟩, .string ⟨#[116, 104, 101, 110]⟩, .string ⟨#[101, 108, 115, 101]⟩] 9))
 replace B3 := Aside0.mk (below_blk B3.out hba)
 replace HS := Aside0.mk (HS.out.below hba)
 have HGS := Aside0.mk (show w1.heap.size < (w1.alloc (.cells #[.string ⟨#[105, 102]⟩, .string ⟨#[116, 104, 101, 110]⟩, .string ⟨#[101, 108, 115, 101]⟩] 9)).heap.size by simp)
 clear hba c3_0 c3_1 c3_2 c3_3 c3_4
 go_wp2_with fail
 generalize w1.alloc (.cells #[.string ⟨#[105, 102]⟩, .string ⟨#[116, 104, 101, 110]⟩, .string ⟨#[101, 108, 115, 101]⟩] 9) = w2 at HS B3 BG HGS ⊢
 have HNO := Aside0.mk (show v.ownBlock ≠ some w1.heap.size from by rcases HVB.out with e | ⟨b, e, hb⟩ <;> rw [e]; (focus simp); intro e2; injection e2 with e2; omega)
 obtain ⟨gl, hgl⟩ : ∃ gl, w1.heap.size = gl := ⟨_, rfl⟩
 rw [hgl] at BG HGL HGS HNO ⊢
 clear hgl HVB
 go_loopg [57] 3 (fun gg s57 wr => ∃ (kk : Nat) (vc : Value), kk ≤ 3 ∧ 3 - kk ≤ gg ∧ s57 = .int .i64 kk ∧ Aside0 (PrSt 111 w0 gp v ws w (ifAcc ks kk) wr vc) ∧ Aside0 (wr.heap[g3]? = some (.cells #[.int .i64 7, .string nm, .int .i64 n, .slice A3 xs.length c3, .slice A4 kids.length c4] 38 (0, 0))) ∧ Aside0 (wr.heap[gl]? = some (.cells #[.string ⟨#[105, 102]⟩, .string ⟨#[116, 104, 101, 110]⟩, .string ⟨#[101, 108, 115, 101]⟩] 9 (0, 0))) ∧ Aside0 (vc.ownBlock ≠ some gl))
 case atStart => exact ⟨0, v, by omega, by omega, rfl, HS, B3, BG, HNO⟩
 case round =>
  clear HS B3 BG HNO
  obtain ⟨kk, vc, hkk, hgk, rfl, HS, B3, BG, HNO⟩ := hrel
  have b0 := (blk_cell BG.out 0).trans rfl
  have b1 := (blk_cell BG.out 1).trans rfl
  have b2 := (blk_cell BG.out 2).trans rfl
  have c3_0 := (blk_cell B3.out 0).trans rfl
  have c3_1 := (blk_cell B3.out 1).trans rfl
  have c3_2 := (blk_cell B3.out 2).trans rfl
  have c3_3 := (blk_cell B3.out 3).trans rfl
  have c3_4 := (blk_cell B3.out 4).trans rfl
  match kk, hkk, hgk, HS with
  | 0, hkk, hgk, HS =>
   replace HS := Aside0.mk (show PrSt 111 w0 gp v ws w ([]) wr vc from HS.out)
   go_wp2_with fail
   refine (eput_lits HS.out.at_ [opnS] (by simp) (by have := HLN.out; simp only [List.length_append, List.length_cons, List.length_nil] at this ⊢; omega) _ rfl 1 rfl).mono ?_
   intro e w23 hp
   have hno := own_apart (g := gl) HNO.out (blk_lt BG.out) hp
   have hbg := fresh_apart (g := gl) HNO.out BG.out HGL.out hp
   obtain ⟨rfl, v23, hst, hk, ho⟩ := HS.out.then2 hp
   replace B3 := Aside0.mk (HS.out.at_.apart B3.out NG.out (by decide) hk)
   replace BG := Aside0.mk hbg
   replace HNO := Aside0.mk (hno v23 ho)
   replace HS := Aside0.mk hst
   clear hp hst hk hbg hno ho c3_0 c3_1 c3_2 c3_3 c3_4 b0 b1 b2
   have b0 := (blk_cell BG.out 0).trans rfl
   have b1 := (blk_cell BG.out 1).trans rfl
   have b2 := (blk_cell BG.out 2).trans rfl
   have c3_0 := (blk_cell B3.out 0).trans rfl
   have c3_1 := (blk_cell B3.out 1).trans rfl
   have c3_2 := (blk_cell B3.out 2).trans rfl
   have c3_3 := (blk_cell B3.out 3).trans rfl
   have c3_4 := (blk_cell B3.out 4).trans rfl
   go_wp2_with fail
   refine (eput_lits HS.out.at_ [ifS] (by simp) (by have := HLN.out; simp only [List.length_append, List.length_cons, List.length_nil] at this ⊢; omega) _ rfl 1 rfl).mono ?_
   intro e w24 hp
   have hno := own_apart (g := gl) HNO.out (blk_lt BG.out) hp
   have hbg := fresh_apart (g := gl) HNO.out BG.out HGL.out hp
   obtain ⟨rfl, v24, hst, hk, ho⟩ := HS.out.then2 hp
   replace B3 := Aside0.mk (HS.out.at_.apart B3.out NG.out (by decide) hk)
   replace BG := Aside0.mk hbg
   replace HNO := Aside0.mk (hno v24 ho)
   replace HS := Aside0.mk hst
   clear hp hst hk hbg hno ho c3_0 c3_1 c3_2 c3_3 c3_4 b0 b1 b2
   have b0 := (blk_cell BG.out 0).trans rfl
   have b1 := (blk_cell BG.out 1).trans rfl
   have b2 := (blk_cell BG.out 2).trans rfl
   have c3_0 := (blk_cell B3.out 0).trans rfl
   have c3_1 := (blk_cell B3.out 1).trans rfl
   have c3_2 := (blk_cell B3.out 2).trans rfl
   have c3_3 := (blk_cell B3.out 3).trans rfl
   have c3_4 := (blk_cell B3.out 4).trans rfl
   go_wp2_with fail
   refine (HKID.out 0 _ rfl _ _ _ HS.out.at_ (by have := HLN.out; simp only [List.length_append, List.length_cons, List.length_nil] at this ⊢; omega)).mono ?_
   intro e w25 hp
   have hno := own_apart (g := gl) HNO.out (blk_lt BG.out) hp
   have hbg := fresh_apart (g := gl) HNO.out BG.out HGL.out hp
   obtain ⟨rfl, v25, hst, hk, ho⟩ := HS.out.then2 hp
   replace B3 := Aside0.mk (HS.out.at_.apart B3.out NG.out (by decide) hk)
   replace BG := Aside0.mk hbg
   replace HNO := Aside0.mk (hno v25 ho)
   replace HS := Aside0.mk hst
   clear hp hst hk hbg hno ho c3_0 c3_1 c3_2 c3_3 c3_4 b0 b1 b2
   have b0 := (blk_cell BG.out 0).trans rfl
   have b1 := (blk_cell BG.out 1).trans rfl
   have b2 := (blk_cell BG.out 2).trans rfl
   have c3_0 := (blk_cell B3.out 0).trans rfl
   have c3_1 := (blk_cell B3.out 1).trans rfl
   have c3_2 := (blk_cell B3.out 2).trans rfl
   have c3_3 := (blk_cell B3.out 3).trans rfl
   have c3_4 := (blk_cell B3.out 4).trans rfl
   go_wp2_with fail
   go_roundg 2
   case measure => omega
   case rel => exact ⟨1, _, by omega, by omega, by go_num, HS, B3, BG, HNO⟩
  | 1, hkk, hgk, HS =>
   replace HS := Aside0.mk (show PrSt 111 w0 gp v ws w ([] ++ [opnS] ++ [ifS] ++ kidW ks 0) wr vc from HS.out)
   go_wp2_with fail
   refine (eput_lits HS.out.at_ [thenS] (by simp) (by have := HLN.out; simp only [List.length_append, List.length_cons, List.length_nil] at this ⊢; omega) _ rfl 1 rfl).mono ?_
   intro e w26 hp
   have hno := own_apart (g := gl) HNO.out (blk_lt BG.out) hp
   have hbg := fresh_apart (g := gl) HNO.out BG.out HGL.out hp
   obtain ⟨rfl, v26, hst, hk, ho⟩ := HS.out.then2 hp
   replace B3 := Aside0.mk (HS.out.at_.apart B3.out NG.out (by decide) hk)
   replace BG := Aside0.mk hbg
   replace HNO := Aside0.mk (hno v26 ho)
   replace HS := Aside0.mk hst
   clear hp hst hk hbg hno ho c3_0 c3_1 c3_2 c3_3 c3_4 b0 b1 b2
   have b0 := (blk_cell BG.out 0).trans rfl
   have b1 := (blk_cell BG.out 1).trans rfl
   have b2 := (blk_cell BG.out 2).trans rfl
   have c3_0 := (blk_cell B3.out 0).trans rfl
   have c3_1 := (blk_cell B3.out 1).trans rfl
   have c3_2 := (blk_cell B3.out 2).trans rfl
   have c3_3 := (blk_cell B3.out 3).trans rfl
   have c3_4 := (blk_cell B3.out 4).trans rfl
   go_wp2_with fail
   refine (HKID.out 1 _ rfl _ _ _ HS.out.at_ (by have := HLN.out; simp only [List.length_append, List.length_cons, List.length_nil] at this ⊢; omega)).mono ?_
   intro e w27 hp
   have hno := own_apart (g := gl) HNO.out (blk_lt BG.out) hp
   have hbg := fresh_apart (g := gl) HNO.out BG.out HGL.out hp
   obtain ⟨rfl, v27, hst, hk, ho⟩ := HS.out.then2 hp
   replace B3 := Aside0.mk (HS.out.at_.apart B3.out NG.out (by decide) hk)
   replace BG := Aside0.mk hbg
   replace HNO := Aside0.mk (hno v27 ho)
   replace HS := Aside0.mk hst
   clear hp hst hk hbg hno ho c3_0 c3_1 c3_2 c3_3 c3_4 b0 b1 b2
   have b0 := (blk_cell BG.out 0).trans rfl
   have b1 := (blk_cell BG.out 1).trans rfl
   have b2 := (blk_cell BG.out 2).trans rfl
   have c3_0 := (blk_cell B3.out 0).trans rfl
   have c3_1 := (blk_cell B3.out 1).trans rfl
   have c3_2 := (blk_cell B3.out 2).trans rfl
   have c3_3 := (blk_cell B3.out 3).trans rfl
   have c3_4 := (blk_cell B3.out 4).trans rfl
   go_wp2_with fail
   go_roundg 1
   case measure => omega
   case rel => exact ⟨2, _, by omega, by omega, by go_num, HS, B3, BG, HNO⟩
  | 2, hkk, hgk, HS =>
   replace HS := Aside0.mk (show PrSt 111 w0 gp v ws w ([] ++ [opnS] ++ [ifS] ++ kidW ks 0 ++ [thenS] ++ kidW ks 1) wr vc from HS.out)
   go_wp2_with fail
   refine (eput_lits HS.out.at_ [elseS] (by simp) (by have := HLN.out; simp only [List.length_append, List.length_cons, List.length_nil] at this ⊢; omega) _ rfl 1 rfl).mono ?_
   intro e w28 hp
   have hno := own_apart (g := gl) HNO.out (blk_lt BG.out) hp
   have hbg := fresh_apart (g := gl) HNO.out BG.out HGL.out hp
   obtain ⟨rfl, v28, hst, hk, ho⟩ := HS.out.then2 hp
   replace B3 := Aside0.mk (HS.out.at_.apart B3.out NG.out (by decide) hk)
   replace BG := Aside0.mk hbg
   replace HNO := Aside0.mk (hno v28 ho)
   replace HS := Aside0.mk hst
   clear hp hst hk hbg hno ho c3_0 c3_1 c3_2 c3_3 c3_4 b0 b1 b2
   have b0 := (blk_cell BG.out 0).trans rfl
   have b1 := (blk_cell BG.out 1).trans rfl
   have b2 := (blk_cell BG.out 2).trans rfl
   have c3_0 := (blk_cell B3.out 0).trans rfl
   have c3_1 := (blk_cell B3.out 1).trans rfl
   have c3_2 := (blk_cell B3.out 2).trans rfl
   have c3_3 := (blk_cell B3.out 3).trans rfl
   have c3_4 := (blk_cell B3.out 4).trans rfl
   go_wp2_with fail
   refine (HKID.out 2 _ rfl _ _ _ HS.out.at_ (by have := HLN.out; simp only [List.length_append, List.length_cons, List.length_nil] at this ⊢; omega)).mono ?_
   intro e w29 hp
   have hno := own_apart (g := gl) HNO.out (blk_lt BG.out) hp
   have hbg := fresh_apart (g := gl) HNO.out BG.out HGL.out hp
   obtain ⟨rfl, v29, hst, hk, ho⟩ := HS.out.then2 hp
   replace B3 := Aside0.mk (HS.out.at_.apart B3.out NG.out (by decide) hk)
   replace BG := Aside0.mk hbg
   replace HNO := Aside0.mk (hno v29 ho)
   replace HS := Aside0.mk hst
   clear hp hst hk hbg hno ho c3_0 c3_1 c3_2 c3_3 c3_4 b0 b1 b2
   have b0 := (blk_cell BG.out 0).trans rfl
   have b1 := (blk_cell BG.out 1).trans rfl
   have b2 := (blk_cell BG.out 2).trans rfl
   have c3_0 := (blk_cell B3.out 0).trans rfl
   have c3_1 := (blk_cell B3.out 1).trans rfl
   have c3_2 := (blk_cell B3.out 2).trans rfl
   have c3_3 := (blk_cell B3.out 3).trans rfl
   have c3_4 := (blk_cell B3.out 4).trans rfl
   go_wp2_with fail
   go_roundg 0
   case measure => omega
   case rel => exact ⟨3, _, by omega, by omega, by go_num, HS, B3, BG, HNO⟩
  | 3, hkk, hgk, HS =>
   replace HS := Aside0.mk (show PrSt 111 w0 gp v ws w ([] ++ [opnS] ++ [ifS] ++ kidW ks 0 ++ [thenS] ++ kidW ks 1 ++ [elseS] ++ kidW ks 2) wr vc from HS.out)
   go_wp2_with fail
   refine (eput_lits HS.out.at_ [clsS] (by simp) (by have := HLN.out; simp only [List.length_append, List.length_cons, List.length_nil] at this ⊢; omega) _ rfl 1 rfl).mono ?_
   intro e w30 hp
   obtain ⟨rfl, v30, hst, hk⟩ := HS.out.then hp
   replace B3 := Aside0.mk (HS.out.at_.apart B3.out NG.out (by decide) hk)
   replace HS := Aside0.mk hst
   clear hp hst hk c3_0 c3_1 c3_2 c3_3 c3_4
   have c3_0 := (blk_cell B3.out 0).trans rfl
   have c3_1 := (blk_cell B3.out 1).trans rfl
   have c3_2 := (blk_cell B3.out 2).trans rfl
   have c3_3 := (blk_cell B3.out 3).trans rfl
   have c3_4 := (blk_cell B3.out 4).trans rfl
   go_wp2_with fail
   go_end0
   exact HS.out.done rfl
  | _ + 4, hkk, _, _ => exact absurd hkk (by omega)
theorem wexpr_calls (hL : LaidR w0) : ∀ {x : S38}, ExSh x → ESays w0 gp x := by
 intro x hx
 induction hx with
 | mk x h h0 h1 hz hr ih =>
  obtain ⟨op, nm, n, xs, kids⟩ := x
  simp only at h h0 h1 hz hr ih
  rcases h with rfl | rfl | rfl | rfl | rfl | rfl
  ·exact expr_mem nm n xs kids hL h0 h1 ih hz
  ·exact expr_un nm n xs kids hL h0 h1 ih hz
  ·exact expr_bin nm n xs kids hL h0 h1 ih hz
  ·exact expr_if nm n xs kids hL h0 h1 ih hz
  ·exact expr_show1 nm n xs kids hL h0 h1 ih hz
  ·exact expr_show4 nm n xs kids hL h0 h1 ih hz
end
end Go.Proofs.YticndoihkfbpoaaGreatDoor
