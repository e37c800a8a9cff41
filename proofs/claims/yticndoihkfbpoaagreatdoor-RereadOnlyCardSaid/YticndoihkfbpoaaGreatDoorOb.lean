/- Package emit: the words of expressions; what number, tree.Show, expr and kid write. -/
import Derived.StillTailTactics
import Derived.Test.YticndoihkfbpoaaGreatDoorOa
import Derived.Test.YticndoihkfbpoaaGreatDoorShelf2
namespace Go.Proofs.YticndoihkfbpoaaGreatDoor
open Go Go.RowKit Go.Lib Go.Proofs.YticndoihkfbpoaaGreatDoorW.PrintWords Go.Proofs.YticndoihkfbpoaaGreatDoor.PScope
set_option maxRecDepth 100000
set_option linter.unusedSimpArgs false
set_option linter.unusedVariables false
attribute [local irreducible] wpStill
def itoaB (n : Int) : ByteArray := ⟨(Go.Lib.itoa n).toArray⟩
def qmS : ByteArray := ⟨#[63]⟩
def showW (op : Int) (nm : ByteArray) (n : Int) : ByteArray := if op = 1 then itoaB n else nm
def kidW (ks : List (List ByteArray)) (i : Nat) : List ByteArray := ks.getD i [qmS]
def exW (op : Int) (nm : ByteArray) (n : Int) (ks : List (List ByteArray)) : List ByteArray :=
 if op = 16 then [memS, sqoS, itoaB n, sqcS]
 else if op = 5 then [opnS, nm] ++ kidW ks 0 ++ [clsS]
 else if op = 6 then [opnS] ++ kidW ks 0 ++ [nm] ++ kidW ks 1 ++ [clsS]
 else if op = 7 then [opnS] ++ [ifS] ++ kidW ks 0 ++ [thenS] ++ kidW ks 1 ++ [elseS] ++ kidW ks 2 ++ [clsS]
 else [showW op nm n]
mutual
def wE : S38 → List ByteArray
 | ⟨op, nm, n, _, kids⟩ => exW op nm n (wEs kids)
def wEs : List S38 → List (List ByteArray)
 | [] => []
 | e :: r => wE e :: wEs r
end
theorem wEs_map : ∀ l, wEs l = l.map wE
 | [] => by rw [wEs]; rfl
 | e :: r => by rw [wEs, wEs_map r]; rfl
theorem wE_eq (x : S38) : wE x = exW x.f0 x.f1 x.f2 (x.f4.map wE) := by
 cases x
 rw [wE, wEs_map]
inductive ExSh : S38 → Prop where
 | mk (x : S38) (h : x.f0 = 16 ∨ x.f0 = 5 ∨ x.f0 = 6 ∨ x.f0 = 7 ∨ x.f0 = 1 ∨ x.f0 = 4) (h0 : -9223372036854775808 ≤ x.f2) (h1 : x.f2 ≤ 9223372036854775807) (hz : (showW x.f0 x.f1 x.f2).size ≤ 140737488355328) (hr : ∀ y ∈ x.f4, ExSh y) : ExSh x
structure PrSt (T : TypeId) (w0 : World) (gp : Nat) (v : Value) (ws : List ByteArray) (w : World) (acc : List ByteArray) (wc : World) (vc : Value) : Prop where
 at_ : PrAt T w0 wc gp vc (ws ++ acc)
 keep : KeepBut w wc gp v.ownBlock
 own : vc.ownBlock = v.ownBlock ∨ ∃ b, vc.ownBlock = some b ∧ w.heap.size ≤ b
section
variable {T : TypeId} {w0 w w' wc : World} {gp : Nat} {v vc : Value} {ws us acc : List ByteArray}
theorem PrSt.start (h : PrAt T w0 w gp v ws) : PrSt T w0 gp v ws w [] w v := ⟨by rw [List.append_nil]; exact h, KeepBut.refl _ _ _, .inl rfl⟩
theorem PrSt.below (h : PrSt T w0 gp v ws w acc wc vc) (hb : Below wc.heap.size wc w') : PrSt T w0 gp v ws w acc w' vc := ⟨h.at_.below' hb, h.keep.trans (KeepBut.of_below hb gp vc.ownBlock) h.own, h.own⟩
theorem PrSt.then {e : Ending} (h : PrSt T w0 gp v ws w acc wc vc) (hp : PrPost T w0 gp vc (ws ++ acc) us wc e w') : e = .returned (.tuple #[]) ∧ ∃ v', PrSt T w0 gp v ws w (acc ++ us) w' v' ∧ KeepBut wc w' gp vc.ownBlock := by
 obtain ⟨rfl, v2, h2, k2, o2⟩ := hp
 refine ⟨rfl, v2, ⟨by rw [← List.append_assoc]; exact h2, h.keep.trans k2 h.own, ?_⟩, k2⟩
 rcases o2 with o2 | ⟨b, o2, hb⟩
 ·rw [o2]; exact h.own
 ·exact .inr ⟨b, o2, Nat.le_trans h.keep.1 hb⟩
theorem PrSt.then2 {e : Ending} (h : PrSt T w0 gp v ws w acc wc vc) (hp : PrPost T w0 gp vc (ws ++ acc) us wc e w') : e = .returned (.tuple #[]) ∧ ∃ v', PrSt T w0 gp v ws w (acc ++ us) w' v' ∧ KeepBut wc w' gp vc.ownBlock ∧ (v'.ownBlock = vc.ownBlock ∨ ∃ b, v'.ownBlock = some b ∧ wc.heap.size ≤ b) := by
 obtain ⟨rfl, v2, h2, k2, o2⟩ := hp
 refine ⟨rfl, v2, ⟨by rw [← List.append_assoc]; exact h2, h.keep.trans k2 h.own, ?_⟩, k2, o2⟩
 rcases o2 with o2 | ⟨b, o2, hb⟩
 ·rw [o2]; exact h.own
 ·exact .inr ⟨b, o2, Nat.le_trans h.keep.1 hb⟩
theorem own_apart {g : Nat} {e : Ending} (hn : vc.ownBlock ≠ some g) (hlt : g < wc.heap.size) (hp : PrPost T w0 gp vc ws us wc e w') : ∀ v' : Value, (v'.ownBlock = vc.ownBlock ∨ ∃ b, v'.ownBlock = some b ∧ wc.heap.size ≤ b) → v'.ownBlock ≠ some g := by
 intro v' h
 rcases h with h | ⟨b, h, hb⟩
 ·rw [h]; exact hn
 ·rw [h]; intro e2; injection e2 with e2; omega
theorem fresh_apart {g : Nat} {ob : Obj} {e : Ending} (hn : vc.ownBlock ≠ some g) (hb : wc.heap[g]? = some ob) (hg : g ≠ gp) (hp : PrPost T w0 gp vc ws us wc e w') : w'.heap[g]? = some ob := by
 obtain ⟨_, v2, _, k2, _⟩ := hp
 exact k2.blk hb hg (fun e => hn e.symm)
theorem PrSt.done (h : PrSt T w0 gp v ws w acc wc vc) (hu : us = acc) : PrPost T w0 gp v ws us w (.returned (.tuple #[])) wc := by
 subst hu
 exact ⟨rfl, vc, h.at_, h.keep, h.own⟩
theorem row_join {xs : List ByteArray} {b : Nat} {v : Value} (h : Kd.string.R 9 w b (fun _ => True) v xs) (hlen : (Lib.join (xs.map (·.data.toList)) [32]).length ≤ 140737488355328) (hm : xs.length ≤ 140737488355328) :
  Calls Tryz.prog 62 #[v, .string ⟨#[32]⟩] w fun e w' => e = .returned (.string ⟨(Lib.join (xs.map (·.data.toList)) [32]).toArray⟩) ∧ Below w.heap.size w w' := by
 cases hx : xs with
 | nil =>
  subst hx
  obtain ⟨A, c, rfl⟩ := Kd.R_slice h
  refine (Tryz.strings_Join_none A c ⟨#[32]⟩ w).mono ?_
  rintro e w' ⟨rfl, rfl⟩
  exact ⟨rfl, Below.refl _ _⟩
 | cons z zs =>
  rw [← hx]
  have hne : 0 < xs.length := by rw [hx]; simp
  obtain ⟨gv, cap, hv, hb, _, cells, hcl⟩ := Kd.R_form h hne
  obtain ⟨A7, c7, hv6, hcap, _⟩ := Kd.R_reads h
  subst hv
  injection hv6 with _ _ hcc
  subst hcc
  exact Tryz.strings_Join gv 0 cap xs ⟨#[32]⟩ w (fun j x hj => by
   have hjl : j < xs.length := (List.getElem?_eq_some_iff.1 hj).1
   obtain ⟨cs, hcs, hM, hc, _⟩ := Kd.R_elem h (⟨#[]⟩ : ByteArray) (j : Int) (by omega) (by omega)
   rw [Int.toNat_natCast] at hM hc
   obtain rfl : cs = [.string (xs.getD j ⟨#[]⟩)] := hM
   have hq := hc 0 _ rfl
   rw [show Kd.string.sz = 1 from rfl, Nat.mul_one, Nat.add_zero] at hq
   rw [Nat.zero_add, hq, List.getD_eq_getElem?_getD, hj]; rfl) (blk_lt hcl) hm hcap hlen
theorem fmt_calls (n : Int) (h0 : -9223372036854775808 ≤ n) (h1 : n ≤ 9223372036854775807) (W : World) (hL : LaidR W) : Calls Tryz.prog 150 #[.int .i64 n, .int .i64 10] W fun e w' => e = .returned (.string (itoaB n)) ∧ Below W.heap.size W w' := by
 refine (Tryz.strconv_FormatInt_10 n h0 h1 W hL.tab).mono ?_
 rintro e w2 ⟨rfl, k2, os2, rfl⟩
 exact ⟨rfl, below_grow (pw_below_drewN (Below.refl _ _) k2) (Nat.le_refl _) os2⟩
theorem itoa_calls (n : Int) (h0 : -9223372036854775808 ≤ n) (h1 : n ≤ 9223372036854775807) (W : World) (hL : LaidR W) : Calls Tryz.prog 135 #[.int .i64 n] W fun e w' => e = .returned (.string (itoaB n)) ∧ Below W.heap.size W w' := by
 refine (Tryz.strconv_Itoa n h0 h1 W hL.tab).mono ?_
 rintro e w2 ⟨rfl, k2, os2, rfl⟩
 exact ⟨rfl, below_grow (pw_below_drewN (Below.refl _ _) k2) (Nat.le_refl _) os2⟩
theorem enumber_calls (h : PrAt 111 w0 w gp v ws) (hL : LaidR w0) (n : Int) (h0 : -9223372036854775808 ≤ n) (h1 : n ≤ 9223372036854775807) (hl : ws.length + 1 ≤ 8796093022208) :
  Calls Tryz.prog 95 #[.pointer (some ⟨gp, 0, none⟩), .int .i64 n] w (PrPost 111 w0 gp v ws [itoaB n] w) := by
 have HS := Aside0.mk (PrSt.start h)
 have HI := Aside0.mk (itoa_calls n h0 h1 w (hL.below h.below))
 clear h hL
 go_enter Tryz.func95, Tryz.ntmps95
 go_wp2_with fail
 refine HI.out.mono ?_
 rintro e w1 ⟨rfl, hb⟩
 replace HS := Aside0.mk (HS.out.below hb)
 clear hb HI
 go_wp2_with fail
 refine (eput_lits HS.out.at_ [itoaB n] (by simp) (by simp; omega) _ rfl 1 rfl).mono ?_
 intro e w2 hp
 obtain ⟨rfl, v2, hst, _⟩ := HS.out.then hp
 have HS2 := Aside0.mk hst
 clear hp hst HS
 go_wp2_with fail
 go_end0
 exact HS2.out.done rfl
set_option maxHeartbeats 2000000 in
theorem texpr_1 (h : PrAt 241 w0 w gp v ws) (hL : LaidR w0) (nm : ByteArray) (n : Int) (h0 : -9223372036854775808 ≤ n) (h1 : n ≤ 9223372036854775807) (V3 V4 : Value) (hl : ws.length + 1 ≤ 8796093022208) :
  Calls Tryz.prog 216 #[.pointer (some ⟨gp, 0, none⟩), .agg #[.int .i64 1, .string nm, .int .i64 n, V3, V4]] w (PrPost 241 w0 gp v ws [itoaB n] w) := by
 have hba := below_alloc (Below.refl w.heap.size w) (.cells #[.int .i64 1, .string nm, .int .i64 n, V3, V4] 38)
 have B3 := Aside0.mk (blk_new w (.cells #[.int .i64 1, .string nm, .int .i64 n, V3, V4] 38))
 have HS := Aside0.mk ((PrSt.start h).below hba)
 have HI := Aside0.mk (fmt_calls n h0 h1 _ (hL.below (below_step h.below hba)))
 clear h hL hba
 go_enter Tryz.func216, Tryz.ntmps216
 go_upto_region 1 with fail
 generalize w.alloc (.cells #[.int .i64 1, .string nm, .int .i64 n, V3, V4] 38) = w1 at HS HI B3 ⊢
 obtain ⟨g3, hq⟩ : ∃ g3, w.heap.size = g3 := ⟨_, rfl⟩
 rw [hq] at B3 ⊢
 clear hq
 have c0 := (blk_cell B3.out 0).trans rfl
 have c1 := (blk_cell B3.out 1).trans rfl
 have c2 := (blk_cell B3.out 2).trans rfl
 go_wp2_with fail
 refine HI.out.mono ?_
 rintro e w2 ⟨rfl, hb⟩
 replace HS := Aside0.mk (HS.out.below hb)
 clear hb
 go_wp2_with fail
 refine (tput_lits HS.out.at_ [itoaB n] (by simp) (by simp; omega) _ rfl 1 rfl).mono ?_
 intro e w3 hp
 obtain ⟨rfl, v2, hst, _⟩ := HS.out.then hp
 have HS2 := Aside0.mk hst
 clear hp hst HS HI c0 c1 c2
 go_wp2_with fail
 go_end0
 exact HS2.out.done rfl
set_option maxHeartbeats 2000000 in
theorem texpr_4 (h : PrAt 241 w0 w gp v ws) (hL : LaidR w0) (nm : ByteArray) (n : Int) (h0 : -9223372036854775808 ≤ n) (h1 : n ≤ 9223372036854775807) (V3 V4 : Value) (hl : ws.length + 1 ≤ 8796093022208) :
  Calls Tryz.prog 216 #[.pointer (some ⟨gp, 0, none⟩), .agg #[.int .i64 4, .string nm, .int .i64 n, V3, V4]] w (PrPost 241 w0 gp v ws [nm] w) := by
 have hba := below_alloc (Below.refl w.heap.size w) (.cells #[.int .i64 4, .string nm, .int .i64 n, V3, V4] 38)
 have B3 := Aside0.mk (blk_new w (.cells #[.int .i64 4, .string nm, .int .i64 n, V3, V4] 38))
 have HS := Aside0.mk ((PrSt.start h).below hba)
 have HI := Aside0.mk (fmt_calls n h0 h1 _ (hL.below (below_step h.below hba)))
 clear h hL hba
 go_enter Tryz.func216, Tryz.ntmps216
 go_upto_region 1 with fail
 generalize w.alloc (.cells #[.int .i64 4, .string nm, .int .i64 n, V3, V4] 38) = w1 at HS HI B3 ⊢
 obtain ⟨g3, hq⟩ : ∃ g3, w.heap.size = g3 := ⟨_, rfl⟩
 rw [hq] at B3 ⊢
 clear hq
 have c0 := (blk_cell B3.out 0).trans rfl
 have c1 := (blk_cell B3.out 1).trans rfl
 have c2 := (blk_cell B3.out 2).trans rfl
 go_wp2_with fail
 refine (tput_lits HS.out.at_ [nm] (by simp) (by simp; omega) _ rfl 1 rfl).mono ?_
 intro e w3 hp
 obtain ⟨rfl, v2, hst, _⟩ := HS.out.then hp
 have HS2 := Aside0.mk hst
 clear hp hst HS HI c0 c1 c2
 go_wp2_with fail
 go_end0
 exact HS2.out.done rfl
theorem join_one (x : ByteArray) : (⟨(Lib.join ([x].map (·.data.toList)) [32]).toArray⟩ : ByteArray) = x := by
 simp [Lib.join, List.intercalate]
set_option maxHeartbeats 2000000 in
theorem show_calls (hL : LaidR w) (op : Int) (nm : ByteArray) (n : Int) (hop : op = 1 ∨ op = 4) (h0 : -9223372036854775808 ≤ n) (h1 : n ≤ 9223372036854775807) (V3 V4 : Value) (hz : (showW op nm n).size ≤ 140737488355328) :
  Calls Tryz.prog 186 #[.agg #[.int .i64 op, .string nm, .int .i64 n, V3, V4]] w fun e w' => e = .returned (.string (showW op nm n)) ∧ Below w.heap.size w w' := by
 have hba := below_alloc (Below.refl w.heap.size w) (.cells #[.int .i64 op, .string nm, .int .i64 n, V3, V4] 38)
 have B1 := Aside0.mk (blk_new w (.cells #[.int .i64 op, .string nm, .int .i64 n, V3, V4] 38))
 have HB := Aside0.mk hba
 have HL := Aside0.mk (hL.below hba)
 clear hL hba
 go_enter Tryz.func186, Tryz.ntmps186
 go_upto_region 1 with fail
 generalize w.alloc (.cells #[.int .i64 op, .string nm, .int .i64 n, V3, V4] 38) = w1 at HB HL B1 ⊢
 obtain ⟨g1, hq⟩ : ∃ g1, w.heap.size = g1 := ⟨_, rfl⟩
 rw [hq] at B1 ⊢
 have HQ := Aside0.mk hq
 clear hq
 go_upto_region 2 with fail
 have hb2 := below_alloc (Below.refl w1.heap.size w1) (.cells #[.slice none 0 0] 241)
 have HP := Aside0.mk (show PrAt 241 w1 (w1.alloc (.cells #[.slice none 0 0] 241)) w1.heap.size (.slice none 0 0) [] from ⟨blk_new _ _, Kd.R_nil _ _ _ _ _, Nat.le_refl _, hb2⟩)
 replace B1 := Aside0.mk (below_blk B1.out hb2)
 generalize w1.alloc (.cells #[.slice none 0 0] 241) = w2 at HP B1 ⊢
 obtain ⟨gp, hgp⟩ : ∃ gp, w1.heap.size = gp := ⟨_, rfl⟩
 rw [hgp] at HP ⊢
 clear hgp hb2
 have c0 := (blk_cell B1.out 0).trans rfl
 have c1 := (blk_cell B1.out 1).trans rfl
 have c2 := (blk_cell B1.out 2).trans rfl
 have c3 := (blk_cell B1.out 3).trans rfl
 have c4 := (blk_cell B1.out 4).trans rfl
 go_wp2_with fail
 have HE := Aside0.mk (show Calls Tryz.prog 216 #[.pointer (some ⟨gp, 0, none⟩), .agg #[.int .i64 op, .string nm, .int .i64 n, V3, V4]] w2 (PrPost 241 w1 gp (.slice none 0 0) [] [showW op nm n] w2) from by
  rcases hop with rfl | rfl
  ·exact texpr_1 HP.out HL.out nm n h0 h1 V3 V4 (by simp)
  ·exact texpr_4 HP.out HL.out nm n h0 h1 V3 V4 (by simp))
 refine HE.out.mono ?_
 intro e w3 hp
 obtain ⟨rfl, v2, hat, _, _⟩ := hp
 rw [List.nil_append] at hat
 have HT := Aside0.mk hat
 have HJ := Aside0.mk (row_join hat.row (by rw [show Lib.join ([showW op nm n].map (·.data.toList)) [32] = (showW op nm n).data.toList from by simp [Lib.join, List.intercalate]]; simpa using hz) (by simp))
 rw [join_one] at HJ
 have HB3 := Aside0.mk (HB.out.trans (hat.below.mono HB.out.size))
 have hblk := hat.blk
 clear hat HP HE c0 c1 c2 c3 c4 B1
 have d0 := (blk_cell hblk 0).trans rfl
 clear hblk
 have HTX := Aside0.mk (show Calls Tryz.prog 217 #[.pointer (some ⟨gp, 0, none⟩)] w3 (fun e w' => e = .returned (.string (showW op nm n)) ∧ Below w3.heap.size w3 w') from by
  go_enter Tryz.func217, Tryz.ntmps217
  go_wp2_with fail
  refine HJ.out.mono ?_
  rintro e w4 ⟨rfl, hb4⟩
  have HB4 := Aside0.mk hb4
  clear hb4 HJ d0
  go_wp2_with fail
  go_ret
  exact ⟨rfl, HB4.out⟩)
 go_wp2_with fail
 refine HTX.out.mono ?_
 rintro e w4 ⟨rfl, hb4⟩
 have HB4 := Aside0.mk (below_step HB3.out hb4)
 clear hb4 HTX d0 HJ
 go_wp2_with fail
 go_ret
 exact ⟨rfl, HB4.out⟩
end
end Go.Proofs.YticndoihkfbpoaaGreatDoor
