/- Package emit: the words of statements; what call, stmt and block write. -/
import Derived.Test.YticndoihkfbpoaaGreatDoorOd
import Derived.Test.YticndoihkfbpoaaGreatDoorVo
namespace Go.Proofs.YticndoihkfbpoaaGreatDoor
open Go Go.RowKit Go.Lib Go.Proofs.YticndoihkfbpoaaGreatDoorW.PrintWords Go.Proofs.YticndoihkfbpoaaGreatDoor.PScope
set_option maxRecDepth 100000
set_option linter.unusedSimpArgs false
set_option linter.unusedVariables false
attribute [local irreducible] wpStill
def callW (fn pos : Int) : List ByteArray := [itoaB fn] ++ [opnS] ++ [itoaB pos] ++ [clsS]
def argsW (args : List S38) : List ByteArray := btw (fun i => wE (args.getD i z38)) args.length
mutual
def wS : FS → List ByteArray
 | .mk op name pos fn names e args arms =>
  if op = 1 then [name, eqS] ++ wE e ++ [semS]
  else if op = 2 then [memS, sqoS] ++ [itoaB pos] ++ [sqcS, eqS] ++ wE e ++ [semS]
  else if op = 3 then namesW names ++ [eqS, stepS] ++ callW fn pos ++ argsW args ++ [semS]
  else if op = 4 then [resetS] ++ callW fn pos ++ [semS]
  else if op = 5 then [switchS, name, braS] ++ wA arms ++ [ketS]
  else [qmS] ++ [semS]
def wLs : List FS → List ByteArray
 | [] => []
 | s :: r => wS s ++ wLs r
def wA : List (Int × List FS) → List ByteArray
 | [] => []
 | a :: r => wP a ++ wA r
def wP : Int × List FS → List ByteArray
 | (n, b) => [caseS, itoaB n] ++ ([braS] ++ wLs b ++ [ketS])
end
def wL (l : List FS) : List ByteArray := [braS] ++ wLs l ++ [ketS]
theorem wP_eq (a : Int × List FS) : wP a = [caseS, itoaB a.1] ++ wL a.2 := by
 obtain ⟨n, b⟩ := a
 rw [wP]; rfl
theorem wS_eq (s : FS) : wS s = if s.op = 1 then [s.name, eqS] ++ wE s.e ++ [semS]
  else if s.op = 2 then [memS, sqoS] ++ [itoaB s.pos] ++ [sqcS, eqS] ++ wE s.e ++ [semS]
  else if s.op = 3 then namesW s.names ++ [eqS, stepS] ++ callW s.fn s.pos ++ argsW s.args ++ [semS]
  else if s.op = 4 then [resetS] ++ callW s.fn s.pos ++ [semS]
  else if s.op = 5 then [switchS, s.name, braS] ++ wA s.arms ++ [ketS]
  else [qmS] ++ [semS] := by
 cases s
 rw [wS]; rfl
theorem wLs_app : ∀ (l r : List FS), wLs (l ++ r) = wLs l ++ wLs r
 | [], r => by rw [wLs]; rfl
 | s :: l, r => by rw [List.cons_append, wLs, wLs, wLs_app l r, List.append_assoc]
theorem wA_app : ∀ (l r : List (Int × List FS)), wA (l ++ r) = wA l ++ wA r
 | [], r => by rw [wA]; rfl
 | s :: l, r => by rw [List.cons_append, wA, wA, wA_app l r, List.append_assoc]
theorem take_snoc {α : Type} {l : List α} {k : Nat} (h : k < l.length) (d : α) : l.take (k + 1) = l.take k ++ [l.getD k d] := by
 rw [List.take_add_one, List.getD_eq_getElem?_getD, List.getElem?_eq_getElem h]
 rfl
theorem wLs_take {l : List FS} {k : Nat} (h : k < l.length) : wLs (l.take (k + 1)) = wLs (l.take k) ++ wS (l.getD k zFS) := by
 rw [take_snoc h zFS, wLs_app, wLs, wLs, List.append_nil]
theorem wA_take {l : List (Int × List FS)} {k : Nat} (h : k < l.length) : wA (l.take (k + 1)) = wA (l.take k) ++ wP (l.getD k zFA) := by
 rw [take_snoc h zFA, wA_app, wA, wA, List.append_nil]
theorem wLs_le {l : List FS} {k : Nat} (h : k < l.length) : (wLs (l.take k)).length + (wS (l.getD k zFS)).length ≤ (wLs l).length := by
 have h1 := congrArg List.length (wLs_app (l.take (k + 1)) (l.drop (k + 1)))
 rw [List.take_append_drop, List.length_append, wLs_take h, List.length_append] at h1
 omega
theorem wA_le {l : List (Int × List FS)} {k : Nat} (h : k < l.length) : (wA (l.take k)).length + (wP (l.getD k zFA)).length ≤ (wA l).length := by
 have h1 := congrArg List.length (wA_app (l.take (k + 1)) (l.drop (k + 1)))
 rw [List.take_append_drop, List.length_append, wA_take h, List.length_append] at h1
 omega
def In64 (n : Int) : Prop := -9223372036854775808 ≤ n ∧ n ≤ 9223372036854775807
inductive FsSh : List FS → Prop where
 | mk (l : List FS) (he : ∀ s ∈ l, s.op = 1 ∨ s.op = 2 → ExSh s.e) (ha : ∀ s ∈ l, s.op = 3 → ∀ x ∈ s.args, ExSh x) (hp : ∀ s ∈ l, In64 s.pos ∧ In64 s.fn) (hn : ∀ s ∈ l, ∀ a ∈ s.arms, In64 a.1) (hr : ∀ s ∈ l, ∀ a ∈ s.arms, FsSh a.2) : FsSh l
section
variable {w0 w : World} {gp : Nat} {v : Value} {ws : List ByteArray}
def SSays (w0 : World) (gp : Nat) (s : FS) : Prop :=
 ∀ (w : World) (v : Value) (ws : List ByteArray) (cs : List Value), PrAt 111 w0 w gp v ws → kFS.K w0 s cs → ws.length + (wS s).length ≤ 8796093022208 → Calls Tryz.prog 136 #[.pointer (some ⟨gp, 0, none⟩), .agg cs.toArray] w (PrPost 111 w0 gp v ws (wS s) w)
def BSays (w0 : World) (gp : Nat) (l : List FS) : Prop :=
 ∀ (w : World) (v : Value) (ws : List ByteArray) (A : Option Addr) (c : Nat), PrAt 111 w0 w gp v ws → kFS.C w0 A l.length l → ws.length + (wL l).length ≤ 8796093022208 → Calls Tryz.prog 98 #[.pointer (some ⟨gp, 0, none⟩), .slice A l.length c] w (PrPost 111 w0 gp v ws (wL l) w)
set_option maxHeartbeats 4000000 in
theorem wcall_calls (hL : LaidR w0) (h : PrAt 111 w0 w gp v ws) (s : FS) (cs : List Value) (hK : kFS.K w0 s cs) (hp : In64 s.pos ∧ In64 s.fn) (hl : ws.length + (callW s.fn s.pos).length ≤ 8796093022208) :
  Calls Tryz.prog 163 #[.pointer (some ⟨gp, 0, none⟩), .agg cs.toArray] w (PrPost 111 w0 gp v ws (callW s.fn s.pos) w) := by
 obtain ⟨sA4, sc4, sA8, sc8, sA9, sc9, sA6, sc6, sA7, sc7, rfl, _⟩ := kFS_openV hK
 have HLN := Aside0.mk (show ws.length + ([itoaB s.fn] ++ [opnS] ++ [itoaB s.pos] ++ [clsS]).length ≤ 8796093022208 from hl)
 have HL := Aside0.mk hL
 have HP := Aside0.mk hp
 have hba := below_alloc (Below.refl w.heap.size w) (.cells #[.int .i64 s.op, .string s.name, .int .i64 s.pos, .int .i64 s.fn, .slice sA4 (s.names).length sc4, .int .i64 s.e.f0, .string s.e.f1, .int .i64 s.e.f2, .slice sA8 (s.e.f3).length sc8, .slice sA9 (s.e.f4).length sc9, .slice sA6 (s.args).length sc6, .slice sA7 (s.arms).length sc7] 41)
 have BE := Aside0.mk (blk_new w (.cells #[.int .i64 s.op, .string s.name, .int .i64 s.pos, .int .i64 s.fn, .slice sA4 (s.names).length sc4, .int .i64 s.e.f0, .string s.e.f1, .int .i64 s.e.f2, .slice sA8 (s.e.f3).length sc8, .slice sA9 (s.e.f4).length sc9, .slice sA6 (s.args).length sc6, .slice sA7 (s.arms).length sc7] 41))
 have HS := Aside0.mk ((PrSt.start h).below hba)
 have NG := Aside0.mk (show w.heap.size ≠ gp from by have := h.lt; omega)
 clear hK hl hL hp hba h
 go_enter Tryz.func163, Tryz.ntmps163
 go_upto_region 1 with fail
 generalize w.alloc (.cells #[.int .i64 s.op, .string s.name, .int .i64 s.pos, .int .i64 s.fn, .slice sA4 (s.names).length sc4, .int .i64 s.e.f0, .string s.e.f1, .int .i64 s.e.f2, .slice sA8 (s.e.f3).length sc8, .slice sA9 (s.e.f4).length sc9, .slice sA6 (s.args).length sc6, .slice sA7 (s.arms).length sc7] 41) = w1 at HS BE ⊢
 obtain ⟨g3, hq⟩ : ∃ g3, w.heap.size = g3 := ⟨_, rfl⟩
 rw [hq] at BE NG ⊢
 clear hq
 have ce_2 := (blk_cell BE.out 2).trans rfl
 have ce_3 := (blk_cell BE.out 3).trans rfl
 go_wp2_with fail
 refine (enumber_calls HS.out.at_ HL.out s.fn HP.out.2.1 HP.out.2.2 (by have := HLN.out; simp only [List.length_append, List.length_cons, List.length_nil] at this ⊢; omega)).mono ?_
 intro e w11 hp
 obtain ⟨rfl, v11, hst, hk⟩ := HS.out.then hp
 replace BE := Aside0.mk (HS.out.at_.apart BE.out NG.out (by decide) hk)
 replace HS := Aside0.mk hst
 clear hp hst hk ce_2 ce_3
 have ce_2 := (blk_cell BE.out 2).trans rfl
 have ce_3 := (blk_cell BE.out 3).trans rfl
 go_wp2_with fail
 refine (eput_lits HS.out.at_ [opnS] (by simp) (by have := HLN.out; simp only [List.length_append, List.length_cons, List.length_nil] at this ⊢; omega) _ rfl 1 rfl).mono ?_
 intro e w12 hp
 obtain ⟨rfl, v12, hst, hk⟩ := HS.out.then hp
 replace BE := Aside0.mk (HS.out.at_.apart BE.out NG.out (by decide) hk)
 replace HS := Aside0.mk hst
 clear hp hst hk ce_2 ce_3
 have ce_2 := (blk_cell BE.out 2).trans rfl
 have ce_3 := (blk_cell BE.out 3).trans rfl
 go_wp2_with fail
 refine (enumber_calls HS.out.at_ HL.out s.pos HP.out.1.1 HP.out.1.2 (by have := HLN.out; simp only [List.length_append, List.length_cons, List.length_nil] at this ⊢; omega)).mono ?_
 intro e w13 hp
 obtain ⟨rfl, v13, hst, hk⟩ := HS.out.then hp
 replace BE := Aside0.mk (HS.out.at_.apart BE.out NG.out (by decide) hk)
 replace HS := Aside0.mk hst
 clear hp hst hk ce_2 ce_3
 have ce_2 := (blk_cell BE.out 2).trans rfl
 have ce_3 := (blk_cell BE.out 3).trans rfl
 go_wp2_with fail
 refine (eput_lits HS.out.at_ [clsS] (by simp) (by have := HLN.out; simp only [List.length_append, List.length_cons, List.length_nil] at this ⊢; omega) _ rfl 1 rfl).mono ?_
 intro e w14 hp
 obtain ⟨rfl, v14, hst, hk⟩ := HS.out.then hp
 replace BE := Aside0.mk (HS.out.at_.apart BE.out NG.out (by decide) hk)
 replace HS := Aside0.mk hst
 clear hp hst hk ce_2 ce_3
 have ce_2 := (blk_cell BE.out 2).trans rfl
 have ce_3 := (blk_cell BE.out 3).trans rfl
 go_wp2_with fail
 go_end0
 exact HS.out.done rfl
theorem stmt1_eg : ∀ args w, (callFunc 164 args).run Tryz.prog w = .ok (.enter 164 args) w := enters_of Tryz.func164 (by kernel_rfl) rfl
set_option maxHeartbeats 4000000 in
theorem stmt1_calls (h : PrAt 111 w0 w gp v ws) (l : List S38) (hx : ∀ x ∈ l, ESays w0 gp x) (s : FS) (hs : s.args = l) (sA4 sA8 sA9 sA6 sA7 : Option Addr) (sc4 sc8 sc9 sc6 sc7 : Nat) (hC : kE.C w0 sA6 l.length l) (b2 b3 : Nat) (B2 : w.heap[b2]? = some (.cells #[.pointer (some ⟨gp, 0, none⟩)] 109 (0, 0))) (B3 : w.heap[b3]? = some (.cells #[.int .i64 s.op, .string s.name, .int .i64 s.pos, .int .i64 s.fn, .slice sA4 (s.names).length sc4, .int .i64 s.e.f0, .string s.e.f1, .int .i64 s.e.f2, .slice sA8 (s.e.f3).length sc8, .slice sA9 (s.e.f4).length sc9, .slice sA6 (s.args).length sc6, .slice sA7 (s.arms).length sc7] 41 (0, 0))) (i : Nat) (hi : i < l.length) (hl : ws.length + (wE (l.getD i z38)).length ≤ 8796093022208) :
  Calls Tryz.prog 164 #[.int .i64 (i : Int), .pointer (some ⟨b2, 0, none⟩), .pointer (some ⟨b3, 0, none⟩)] w (PrPost 111 w0 gp v ws (wE (l.getD i z38)) w) := by
 subst hs
 have d2 := (blk_cell B2 0).trans rfl
 have d3 := (blk_cell B3 10).trans rfl
 have hiz : (i : Int) < (s.args.length : Int) := by omega
 have hlm : s.args.length ≤ 9223372036854775807 := hC.2.1
 obtain ⟨y, hy⟩ : ∃ y, s.args.getD i z38 = y := ⟨_, rfl⟩
 have HY := Aside0.mk (hx y (by rw [← hy]; exact getDm hi _))
 have HLN := Aside0.mk hl
 rw [hy] at HLN ⊢
 obtain ⟨yad, yA3, yc3, yA4, yc4, hA4, yK, y0, y1, y2, y3, y4⟩ := kidC h.below hC i hi y hy
 subst hA4
 have HP := Aside0.mk (h.below' (below_drew1 (Below.refl _ _)))
 have YK := Aside0.mk yK
 clear hC h B2 B3 hx hl hy yK
 go_enter Tryz.func164, Tryz.ntmps164
 go_wp2_with fail
 go_still_tail 6, (by kernel_rfl)
 change wpList _ _ _ _ _ (World.drew w)
 go_wp2_with fail
 refine (HY.out _ _ _ _ HP.out YK.out HLN.out).mono ?_
 intro e w9 hp
 obtain ⟨rfl, v9, h9, k9, o9⟩ := hp
 have HR := Aside0.mk (show PrPost 111 w0 gp v ws (wE y) w (.returned (.tuple #[])) w9 from ⟨rfl, v9, h9, k9, o9⟩)
 clear h9 k9 o9
 go_wp2_with fail
 go_end0
 exact HR.out
set_option maxHeartbeats 4000000 in
theorem stmt_1 (hL : LaidR w0) (s : FS) (e1 : s.op = 1) (hx : ESays w0 gp s.e) : SSays w0 gp s := by
 intro w v ws cs h hK hl
 obtain ⟨sA4, sc4, sA8, sc8, sA9, sc9, sA6, sc6, sA7, sc7, rfl, sl4, sg4, sl8, sg8, sl9, sg9, sl6, sg6, sl7, sg7⟩ := kFS_openV hK
 have SK := Aside0.mk hK
 have HL := Aside0.mk hL
 have hW : wS s = [s.name, eqS] ++ wE s.e ++ [semS] := by rw [wS_eq]; rw [if_pos e1]
 rw [hW] at hl ⊢
 have HLN := Aside0.mk hl
 have HKE := Aside0.mk (k38_mk w0 s.e sl8 sg8 sl9 sg9)
 have sG4 := Aside0.mk sg4; have sG6 := Aside0.mk sg6; have sG7 := Aside0.mk sg7
 have hs := st2 w (.cells #[.pointer (some ⟨gp, 0, none⟩)] 109) (.cells #[.int .i64 s.op, .string s.name, .int .i64 s.pos, .int .i64 s.fn, .slice sA4 (s.names).length sc4, .int .i64 s.e.f0, .string s.e.f1, .int .i64 s.e.f2, .slice sA8 (s.e.f3).length sc8, .slice sA9 (s.e.f4).length sc9, .slice sA6 (s.args).length sc6, .slice sA7 (s.arms).length sc7] 41)
 have NG := Aside0.mk (show w.heap.size ≠ gp ∧ w.heap.size + 1 ≠ gp from by have := h.lt; omega)
 have HS0 := Aside0.mk (PrSt.start h)
 clear hl hK hL hW sl4 sg4 sl8 sg8 sl9 sg9 sl6 sg6 sl7 sg7 h
 have o1 : (s.op == (1 : Int)) = true := by rw [e1]; rfl
 clear e1
 go_enter Tryz.func136, Tryz.ntmps136
 go_upto_region 1 with fail
 generalize (w.alloc (.cells #[.pointer (some ⟨gp, 0, none⟩)] 109)).alloc (.cells #[.int .i64 s.op, .string s.name, .int .i64 s.pos, .int .i64 s.fn, .slice sA4 (s.names).length sc4, .int .i64 s.e.f0, .string s.e.f1, .int .i64 s.e.f2, .slice sA8 (s.e.f3).length sc8, .slice sA9 (s.e.f4).length sc9, .slice sA6 (s.args).length sc6, .slice sA7 (s.arms).length sc7] 41) = w1 at hs ⊢
 obtain ⟨b2, b3, hb⟩ := hs
 have HS := Aside0.mk (HS0.out.below hb)
 clear hb HS0
 generalize w.heap.size + 1 = g3 at b3 NG ⊢
 obtain ⟨g2, hq⟩ : ∃ g2, w.heap.size = g2 := ⟨_, rfl⟩
 rw [hq] at b2 NG ⊢
 clear hq
 have B2 := Aside0.mk b2; have BE := Aside0.mk b3
 clear b2 b3
 have d2 := (blk_cell B2.out 0).trans rfl
 have HX := Aside0.mk hx; clear hx
 have ce_0 := (blk_cell BE.out 0).trans rfl
 have ce_1 := (blk_cell BE.out 1).trans rfl
 have ce_2 := (blk_cell BE.out 2).trans rfl
 have ce_3 := (blk_cell BE.out 3).trans rfl
 have ce_4 := (blk_cell BE.out 4).trans rfl
 have ce_5 := (blk_cell BE.out 5).trans rfl
 have ce_6 := (blk_cell BE.out 6).trans rfl
 have ce_7 := (blk_cell BE.out 7).trans rfl
 have ce_8 := (blk_cell BE.out 8).trans rfl
 have ce_9 := (blk_cell BE.out 9).trans rfl
 have ce_10 := (blk_cell BE.out 10).trans rfl
 have ce_11 := (blk_cell BE.out 11).trans rfl
 go_wp2_with fail
 refine (eput_lits HS.out.at_ [s.name, eqS] (by simp) (by have := HLN.out; simp only [List.length_append, List.length_cons, List.length_nil] at this ⊢; omega) _ rfl 2 rfl).mono ?_
 intro e w15 hp
 obtain ⟨rfl, v15, hst, hk⟩ := HS.out.then hp
 replace B2 := Aside0.mk (HS.out.at_.apart B2.out NG.out.1 (by decide) hk)
 replace BE := Aside0.mk (HS.out.at_.apart BE.out NG.out.2 (by decide) hk)
 replace HS := Aside0.mk hst
 clear hp hst hk d2 ce_0 ce_1 ce_2 ce_3 ce_4 ce_5 ce_6 ce_7 ce_8 ce_9 ce_10 ce_11
 have d2 := (blk_cell B2.out 0).trans rfl
 have ce_0 := (blk_cell BE.out 0).trans rfl
 have ce_1 := (blk_cell BE.out 1).trans rfl
 have ce_2 := (blk_cell BE.out 2).trans rfl
 have ce_3 := (blk_cell BE.out 3).trans rfl
 have ce_4 := (blk_cell BE.out 4).trans rfl
 have ce_5 := (blk_cell BE.out 5).trans rfl
 have ce_6 := (blk_cell BE.out 6).trans rfl
 have ce_7 := (blk_cell BE.out 7).trans rfl
 have ce_8 := (blk_cell BE.out 8).trans rfl
 have ce_9 := (blk_cell BE.out 9).trans rfl
 have ce_10 := (blk_cell BE.out 10).trans rfl
 have ce_11 := (blk_cell BE.out 11).trans rfl
 go_wp2_with fail
 refine (HX.out _ _ _ _ HS.out.at_ HKE.out (by have := HLN.out; simp only [List.length_append, List.length_cons, List.length_nil] at this ⊢; omega)).mono ?_
 intro e w16 hp
 obtain ⟨rfl, v16, hst, hk⟩ := HS.out.then hp
 replace B2 := Aside0.mk (HS.out.at_.apart B2.out NG.out.1 (by decide) hk)
 replace BE := Aside0.mk (HS.out.at_.apart BE.out NG.out.2 (by decide) hk)
 replace HS := Aside0.mk hst
 clear hp hst hk d2 ce_0 ce_1 ce_2 ce_3 ce_4 ce_5 ce_6 ce_7 ce_8 ce_9 ce_10 ce_11
 have d2 := (blk_cell B2.out 0).trans rfl
 have ce_0 := (blk_cell BE.out 0).trans rfl
 have ce_1 := (blk_cell BE.out 1).trans rfl
 have ce_2 := (blk_cell BE.out 2).trans rfl
 have ce_3 := (blk_cell BE.out 3).trans rfl
 have ce_4 := (blk_cell BE.out 4).trans rfl
 have ce_5 := (blk_cell BE.out 5).trans rfl
 have ce_6 := (blk_cell BE.out 6).trans rfl
 have ce_7 := (blk_cell BE.out 7).trans rfl
 have ce_8 := (blk_cell BE.out 8).trans rfl
 have ce_9 := (blk_cell BE.out 9).trans rfl
 have ce_10 := (blk_cell BE.out 10).trans rfl
 have ce_11 := (blk_cell BE.out 11).trans rfl
 go_wp2_with fail
 refine (eput_lits HS.out.at_ [semS] (by simp) (by have := HLN.out; simp only [List.length_append, List.length_cons, List.length_nil] at this ⊢; omega) _ rfl 1 rfl).mono ?_
 intro e w17 hp
 obtain ⟨rfl, v17, hst, hk⟩ := HS.out.then hp
 replace B2 := Aside0.mk (HS.out.at_.apart B2.out NG.out.1 (by decide) hk)
 replace BE := Aside0.mk (HS.out.at_.apart BE.out NG.out.2 (by decide) hk)
 replace HS := Aside0.mk hst
 clear hp hst hk d2 ce_0 ce_1 ce_2 ce_3 ce_4 ce_5 ce_6 ce_7 ce_8 ce_9 ce_10 ce_11
 have d2 := (blk_cell B2.out 0).trans rfl
 have ce_0 := (blk_cell BE.out 0).trans rfl
 have ce_1 := (blk_cell BE.out 1).trans rfl
 have ce_2 := (blk_cell BE.out 2).trans rfl
 have ce_3 := (blk_cell BE.out 3).trans rfl
 have ce_4 := (blk_cell BE.out 4).trans rfl
 have ce_5 := (blk_cell BE.out 5).trans rfl
 have ce_6 := (blk_cell BE.out 6).trans rfl
 have ce_7 := (blk_cell BE.out 7).trans rfl
 have ce_8 := (blk_cell BE.out 8).trans rfl
 have ce_9 := (blk_cell BE.out 9).trans rfl
 have ce_10 := (blk_cell BE.out 10).trans rfl
 have ce_11 := (blk_cell BE.out 11).trans rfl
 go_wp2_with fail
 go_end0
 exact HS.out.done rfl
set_option maxHeartbeats 4000000 in
theorem stmt_2 (hL : LaidR w0) (s : FS) (n1 : s.op ≠ 1) (e2 : s.op = 2) (hx : ESays w0 gp s.e) (hp : In64 s.pos) : SSays w0 gp s := by
 intro w v ws cs h hK hl
 obtain ⟨sA4, sc4, sA8, sc8, sA9, sc9, sA6, sc6, sA7, sc7, rfl, sl4, sg4, sl8, sg8, sl9, sg9, sl6, sg6, sl7, sg7⟩ := kFS_openV hK
 have SK := Aside0.mk hK
 have HL := Aside0.mk hL
 have hW : wS s = [memS, sqoS] ++ [itoaB s.pos] ++ [sqcS, eqS] ++ wE s.e ++ [semS] := by rw [wS_eq]; rw [if_neg n1, if_pos e2]
 rw [hW] at hl ⊢
 have HLN := Aside0.mk hl
 have HKE := Aside0.mk (k38_mk w0 s.e sl8 sg8 sl9 sg9)
 have sG4 := Aside0.mk sg4; have sG6 := Aside0.mk sg6; have sG7 := Aside0.mk sg7
 have hs := st2 w (.cells #[.pointer (some ⟨gp, 0, none⟩)] 109) (.cells #[.int .i64 s.op, .string s.name, .int .i64 s.pos, .int .i64 s.fn, .slice sA4 (s.names).length sc4, .int .i64 s.e.f0, .string s.e.f1, .int .i64 s.e.f2, .slice sA8 (s.e.f3).length sc8, .slice sA9 (s.e.f4).length sc9, .slice sA6 (s.args).length sc6, .slice sA7 (s.arms).length sc7] 41)
 have NG := Aside0.mk (show w.heap.size ≠ gp ∧ w.heap.size + 1 ≠ gp from by have := h.lt; omega)
 have HS0 := Aside0.mk (PrSt.start h)
 clear hl hK hL hW sl4 sg4 sl8 sg8 sl9 sg9 sl6 sg6 sl7 sg7 h
 have o1 : (s.op == (1 : Int)) = false := beq_eq_false_iff_ne.2 n1
 have o2 : (s.op == (2 : Int)) = true := by rw [e2]; rfl
 clear n1 e2
 go_enter Tryz.func136, Tryz.ntmps136
 go_upto_region 1 with fail
 generalize (w.alloc (.cells #[.pointer (some ⟨gp, 0, none⟩)] 109)).alloc (.cells #[.int .i64 s.op, .string s.name, .int .i64 s.pos, .int .i64 s.fn, .slice sA4 (s.names).length sc4, .int .i64 s.e.f0, .string s.e.f1, .int .i64 s.e.f2, .slice sA8 (s.e.f3).length sc8, .slice sA9 (s.e.f4).length sc9, .slice sA6 (s.args).length sc6, .slice sA7 (s.arms).length sc7] 41) = w1 at hs ⊢
 obtain ⟨b2, b3, hb⟩ := hs
 have HS := Aside0.mk (HS0.out.below hb)
 clear hb HS0
 generalize w.heap.size + 1 = g3 at b3 NG ⊢
 obtain ⟨g2, hq⟩ : ∃ g2, w.heap.size = g2 := ⟨_, rfl⟩
 rw [hq] at b2 NG ⊢
 clear hq
 have B2 := Aside0.mk b2; have BE := Aside0.mk b3
 clear b2 b3
 have d2 := (blk_cell B2.out 0).trans rfl
 have HX := Aside0.mk hx; have HP := Aside0.mk hp; clear hx hp
 have ce_0 := (blk_cell BE.out 0).trans rfl
 have ce_1 := (blk_cell BE.out 1).trans rfl
 have ce_2 := (blk_cell BE.out 2).trans rfl
 have ce_3 := (blk_cell BE.out 3).trans rfl
 have ce_4 := (blk_cell BE.out 4).trans rfl
 have ce_5 := (blk_cell BE.out 5).trans rfl
 have ce_6 := (blk_cell BE.out 6).trans rfl
 have ce_7 := (blk_cell BE.out 7).trans rfl
 have ce_8 := (blk_cell BE.out 8).trans rfl
 have ce_9 := (blk_cell BE.out 9).trans rfl
 have ce_10 := (blk_cell BE.out 10).trans rfl
 have ce_11 := (blk_cell BE.out 11).trans rfl
 go_wp2_with fail
 refine (eput_lits HS.out.at_ [memS, sqoS] (by simp) (by have := HLN.out; simp only [List.length_append, List.length_cons, List.length_nil] at this ⊢; omega) _ rfl 2 rfl).mono ?_
 intro e w18 hp
 obtain ⟨rfl, v18, hst, hk⟩ := HS.out.then hp
 replace B2 := Aside0.mk (HS.out.at_.apart B2.out NG.out.1 (by decide) hk)
 replace BE := Aside0.mk (HS.out.at_.apart BE.out NG.out.2 (by decide) hk)
 replace HS := Aside0.mk hst
 clear hp hst hk d2 ce_0 ce_1 ce_2 ce_3 ce_4 ce_5 ce_6 ce_7 ce_8 ce_9 ce_10 ce_11
 have d2 := (blk_cell B2.out 0).trans rfl
 have ce_0 := (blk_cell BE.out 0).trans rfl
 have ce_1 := (blk_cell BE.out 1).trans rfl
 have ce_2 := (blk_cell BE.out 2).trans rfl
 have ce_3 := (blk_cell BE.out 3).trans rfl
 have ce_4 := (blk_cell BE.out 4).trans rfl
 have ce_5 := (blk_cell BE.out 5).trans rfl
 have ce_6 := (blk_cell BE.out 6).trans rfl
 have ce_7 := (blk_cell BE.out 7).trans rfl
 have ce_8 := (blk_cell BE.out 8).trans rfl
 have ce_9 := (blk_cell BE.out 9).trans rfl
 have ce_10 := (blk_cell BE.out 10).trans rfl
 have ce_11 := (blk_cell BE.out 11).trans rfl
 go_wp2_with fail
 refine (enumber_calls HS.out.at_ HL.out s.pos HP.out.1 HP.out.2 (by have := HLN.out; simp only [List.length_append, List.length_cons, List.length_nil] at this ⊢; omega)).mono ?_
 intro e w19 hp
 obtain ⟨rfl, v19, hst, hk⟩ := HS.out.then hp
 replace B2 := Aside0.mk (HS.out.at_.apart B2.out NG.out.1 (by decide) hk)
 replace BE := Aside0.mk (HS.out.at_.apart BE.out NG.out.2 (by decide) hk)
 replace HS := Aside0.mk hst
 clear hp hst hk d2 ce_0 ce_1 ce_2 ce_3 ce_4 ce_5 ce_6 ce_7 ce_8 ce_9 ce_10 ce_11
 have d2 := (blk_cell B2.out 0).trans rfl
 have ce_0 := (blk_cell BE.out 0).trans rfl
 have ce_1 := (blk_cell BE.out 1).trans rfl
 have ce_2 := (blk_cell BE.out 2).trans rfl
 have ce_3 := (blk_cell BE.out 3).trans rfl
 have ce_4 := (blk_cell BE.out 4).trans rfl
 have ce_5 := (blk_cell BE.out 5).trans rfl
 have ce_6 := (blk_cell BE.out 6).trans rfl
 have ce_7 := (blk_cell BE.out 7).trans rfl
 have ce_8 := (blk_cell BE.out 8).trans rfl
 have ce_9 := (blk_cell BE.out 9).trans rfl
 have ce_10 := (blk_cell BE.out 10).trans rfl
 have ce_11 := (blk_cell BE.out 11).trans rfl
 go_wp2_with fail
 refine (eput_lits HS.out.at_ [sqcS, eqS] (by simp) (by have := HLN.out; simp only [List.length_append, List.length_cons, List.length_nil] at this ⊢; omega) _ rfl 2 rfl).mono ?_
 intro e w20 hp
 obtain ⟨rfl, v20, hst, hk⟩ := HS.out.then hp
 replace B2 := Aside0.mk (HS.out.at_.apart B2.out NG.out.1 (by decide) hk)
 replace BE := Aside0.mk (HS.out.at_.apart BE.out NG.out.2 (by decide) hk)
 replace HS := Aside0.mk hst
 clear hp hst hk d2 ce_0 ce_1 ce_2 ce_3 ce_4 ce_5 ce_6 ce_7 ce_8 ce_9 ce_10 ce_11
 have d2 := (blk_cell B2.out 0).trans rfl
 have ce_0 := (blk_cell BE.out 0).trans rfl
 have ce_1 := (blk_cell BE.out 1).trans rfl
 have ce_2 := (blk_cell BE.out 2).trans rfl
 have ce_3 := (blk_cell BE.out 3).trans rfl
 have ce_4 := (blk_cell BE.out 4).trans rfl
 have ce_5 := (blk_cell BE.out 5).trans rfl
 have ce_6 := (blk_cell BE.out 6).trans rfl
 have ce_7 := (blk_cell BE.out 7).trans rfl
 have ce_8 := (blk_cell BE.out 8).trans rfl
 have ce_9 := (blk_cell BE.out 9).trans rfl
 have ce_10 := (blk_cell BE.out 10).trans rfl
 have ce_11 := (blk_cell BE.out 11).trans rfl
 go_wp2_with fail
 refine (HX.out _ _ _ _ HS.out.at_ HKE.out (by have := HLN.out; simp only [List.length_append, List.length_cons, List.length_nil] at this ⊢; omega)).mono ?_
 intro e w21 hp
 obtain ⟨rfl, v21, hst, hk⟩ := HS.out.then hp
 replace B2 := Aside0.mk (HS.out.at_.apart B2.out NG.out.1 (by decide) hk)
 replace BE := Aside0.mk (HS.out.at_.apart BE.out NG.out.2 (by decide) hk)
 replace HS := Aside0.mk hst
 clear hp hst hk d2 ce_0 ce_1 ce_2 ce_3 ce_4 ce_5 ce_6 ce_7 ce_8 ce_9 ce_10 ce_11
 have d2 := (blk_cell B2.out 0).trans rfl
 have ce_0 := (blk_cell BE.out 0).trans rfl
 have ce_1 := (blk_cell BE.out 1).trans rfl
 have ce_2 := (blk_cell BE.out 2).trans rfl
 have ce_3 := (blk_cell BE.out 3).trans rfl
 have ce_4 := (blk_cell BE.out 4).trans rfl
 have ce_5 := (blk_cell BE.out 5).trans rfl
 have ce_6 := (blk_cell BE.out 6).trans rfl
 have ce_7 := (blk_cell BE.out 7).trans rfl
 have ce_8 := (blk_cell BE.out 8).trans rfl
 have ce_9 := (blk_cell BE.out 9).trans rfl
 have ce_10 := (blk_cell BE.out 10).trans rfl
 have ce_11 := (blk_cell BE.out 11).trans rfl
 go_wp2_with fail
 refine (eput_lits HS.out.at_ [semS] (by simp) (by have := HLN.out; simp only [List.length_append, List.length_cons, List.length_nil] at this ⊢; omega) _ rfl 1 rfl).mono ?_
 intro e w22 hp
 obtain ⟨rfl, v22, hst, hk⟩ := HS.out.then hp
 replace B2 := Aside0.mk (HS.out.at_.apart B2.out NG.out.1 (by decide) hk)
 replace BE := Aside0.mk (HS.out.at_.apart BE.out NG.out.2 (by decide) hk)
 replace HS := Aside0.mk hst
 clear hp hst hk d2 ce_0 ce_1 ce_2 ce_3 ce_4 ce_5 ce_6 ce_7 ce_8 ce_9 ce_10 ce_11
 have d2 := (blk_cell B2.out 0).trans rfl
 have ce_0 := (blk_cell BE.out 0).trans rfl
 have ce_1 := (blk_cell BE.out 1).trans rfl
 have ce_2 := (blk_cell BE.out 2).trans rfl
 have ce_3 := (blk_cell BE.out 3).trans rfl
 have ce_4 := (blk_cell BE.out 4).trans rfl
 have ce_5 := (blk_cell BE.out 5).trans rfl
 have ce_6 := (blk_cell BE.out 6).trans rfl
 have ce_7 := (blk_cell BE.out 7).trans rfl
 have ce_8 := (blk_cell BE.out 8).trans rfl
 have ce_9 := (blk_cell BE.out 9).trans rfl
 have ce_10 := (blk_cell BE.out 10).trans rfl
 have ce_11 := (blk_cell BE.out 11).trans rfl
 go_wp2_with fail
 go_end0
 exact HS.out.done rfl
set_option maxHeartbeats 4000000 in
theorem stmt_3 (hL : LaidR w0) (s : FS) (n1 : s.op ≠ 1) (n2 : s.op ≠ 2) (e3 : s.op = 3) (hx : ∀ x ∈ s.args, ESays w0 gp x) (hp : In64 s.pos ∧ In64 s.fn) : SSays w0 gp s := by
 intro w v ws cs h hK hl
 obtain ⟨sA4, sc4, sA8, sc8, sA9, sc9, sA6, sc6, sA7, sc7, rfl, sl4, sg4, sl8, sg8, sl9, sg9, sl6, sg6, sl7, sg7⟩ := kFS_openV hK
 have SK := Aside0.mk hK
 have HL := Aside0.mk hL
 have hW : wS s = namesW s.names ++ [eqS, stepS] ++ callW s.fn s.pos ++ argsW s.args ++ [semS] := by rw [wS_eq]; rw [if_neg n1, if_neg n2, if_pos e3]
 rw [hW] at hl ⊢
 have HLN := Aside0.mk hl
 have HKE := Aside0.mk (k38_mk w0 s.e sl8 sg8 sl9 sg9)
 have sG4 := Aside0.mk sg4; have sG6 := Aside0.mk sg6; have sG7 := Aside0.mk sg7
 have hs := st2 w (.cells #[.pointer (some ⟨gp, 0, none⟩)] 109) (.cells #[.int .i64 s.op, .string s.name, .int .i64 s.pos, .int .i64 s.fn, .slice sA4 (s.names).length sc4, .int .i64 s.e.f0, .string s.e.f1, .int .i64 s.e.f2, .slice sA8 (s.e.f3).length sc8, .slice sA9 (s.e.f4).length sc9, .slice sA6 (s.args).length sc6, .slice sA7 (s.arms).length sc7] 41)
 have NG := Aside0.mk (show w.heap.size ≠ gp ∧ w.heap.size + 1 ≠ gp from by have := h.lt; omega)
 have HS0 := Aside0.mk (PrSt.start h)
 clear hl hK hL hW sl4 sg4 sl8 sg8 sl9 sg9 sl6 sg6 sl7 sg7 h
 have o1 : (s.op == (1 : Int)) = false := beq_eq_false_iff_ne.2 n1
 have o2 : (s.op == (2 : Int)) = false := beq_eq_false_iff_ne.2 n2
 have o3 : (s.op == (3 : Int)) = true := by rw [e3]; rfl
 clear n1 n2 e3
 go_enter Tryz.func136, Tryz.ntmps136
 go_upto_region 1 with fail
 generalize (w.alloc (.cells #[.pointer (some ⟨gp, 0, none⟩)] 109)).alloc (.cells #[.int .i64 s.op, .string s.name, .int .i64 s.pos, .int .i64 s.fn, .slice sA4 (s.names).length sc4, .int .i64 s.e.f0, .string s.e.f1, .int .i64 s.e.f2, .slice sA8 (s.e.f3).length sc8, .slice sA9 (s.e.f4).length sc9, .slice sA6 (s.args).length sc6, .slice sA7 (s.arms).length sc7] 41) = w1 at hs ⊢
 obtain ⟨b2, b3, hb⟩ := hs
 have HS := Aside0.mk (HS0.out.below hb)
 clear hb HS0
 generalize w.heap.size + 1 = g3 at b3 NG ⊢
 obtain ⟨g2, hq⟩ : ∃ g2, w.heap.size = g2 := ⟨_, rfl⟩
 rw [hq] at b2 NG ⊢
 clear hq
 have B2 := Aside0.mk b2; have BE := Aside0.mk b3
 clear b2 b3
 have d2 := (blk_cell B2.out 0).trans rfl
 have HX := Aside0.mk hx; have HP := Aside0.mk hp; clear hx hp
 have HAM := Aside0.mk (show s.args.length ≤ 9223372036854775807 from sG6.out.2.1)
 have hmf := run_mkfn
 have ce_0 := (blk_cell BE.out 0).trans rfl
 have ce_1 := (blk_cell BE.out 1).trans rfl
 have ce_2 := (blk_cell BE.out 2).trans rfl
 have ce_3 := (blk_cell BE.out 3).trans rfl
 have ce_4 := (blk_cell BE.out 4).trans rfl
 have ce_5 := (blk_cell BE.out 5).trans rfl
 have ce_6 := (blk_cell BE.out 6).trans rfl
 have ce_7 := (blk_cell BE.out 7).trans rfl
 have ce_8 := (blk_cell BE.out 8).trans rfl
 have ce_9 := (blk_cell BE.out 9).trans rfl
 have ce_10 := (blk_cell BE.out 10).trans rfl
 have ce_11 := (blk_cell BE.out 11).trans rfl
 go_wp2_with fail
 refine (names_calls HS.out.at_ s.names sA4 sc4 sG4.out (by have := HLN.out; simp only [List.length_append, List.length_cons, List.length_nil] at this ⊢; omega)).mono ?_
 intro e w23 hp
 obtain ⟨rfl, v23, hst, hk⟩ := HS.out.then hp
 replace B2 := Aside0.mk (HS.out.at_.apart B2.out NG.out.1 (by decide) hk)
 replace BE := Aside0.mk (HS.out.at_.apart BE.out NG.out.2 (by decide) hk)
 replace HS := Aside0.mk hst
 clear hp hst hk d2 ce_0 ce_1 ce_2 ce_3 ce_4 ce_5 ce_6 ce_7 ce_8 ce_9 ce_10 ce_11
 have d2 := (blk_cell B2.out 0).trans rfl
 have ce_0 := (blk_cell BE.out 0).trans rfl
 have ce_1 := (blk_cell BE.out 1).trans rfl
 have ce_2 := (blk_cell BE.out 2).trans rfl
 have ce_3 := (blk_cell BE.out 3).trans rfl
 have ce_4 := (blk_cell BE.out 4).trans rfl
 have ce_5 := (blk_cell BE.out 5).trans rfl
 have ce_6 := (blk_cell BE.out 6).trans rfl
 have ce_7 := (blk_cell BE.out 7).trans rfl
 have ce_8 := (blk_cell BE.out 8).trans rfl
 have ce_9 := (blk_cell BE.out 9).trans rfl
 have ce_10 := (blk_cell BE.out 10).trans rfl
 have ce_11 := (blk_cell BE.out 11).trans rfl
 go_wp2_with fail
 refine (eput_lits HS.out.at_ [eqS, stepS] (by simp) (by have := HLN.out; simp only [List.length_append, List.length_cons, List.length_nil] at this ⊢; omega) _ rfl 2 rfl).mono ?_
 intro e w24 hp
 obtain ⟨rfl, v24, hst, hk⟩ := HS.out.then hp
 replace B2 := Aside0.mk (HS.out.at_.apart B2.out NG.out.1 (by decide) hk)
 replace BE := Aside0.mk (HS.out.at_.apart BE.out NG.out.2 (by decide) hk)
 replace HS := Aside0.mk hst
 clear hp hst hk d2 ce_0 ce_1 ce_2 ce_3 ce_4 ce_5 ce_6 ce_7 ce_8 ce_9 ce_10 ce_11
 have d2 := (blk_cell B2.out 0).trans rfl
 have ce_0 := (blk_cell BE.out 0).trans rfl
 have ce_1 := (blk_cell BE.out 1).trans rfl
 have ce_2 := (blk_cell BE.out 2).trans rfl
 have ce_3 := (blk_cell BE.out 3).trans rfl
 have ce_4 := (blk_cell BE.out 4).trans rfl
 have ce_5 := (blk_cell BE.out 5).trans rfl
 have ce_6 := (blk_cell BE.out 6).trans rfl
 have ce_7 := (blk_cell BE.out 7).trans rfl
 have ce_8 := (blk_cell BE.out 8).trans rfl
 have ce_9 := (blk_cell BE.out 9).trans rfl
 have ce_10 := (blk_cell BE.out 10).trans rfl
 have ce_11 := (blk_cell BE.out 11).trans rfl
 go_wp2_with fail
 refine (wcall_calls HL.out HS.out.at_ s _ SK.out HP.out (by have := HLN.out; simp only [List.length_append, List.length_cons, List.length_nil] at this ⊢; omega)).mono ?_
 intro e w25 hp
 obtain ⟨rfl, v25, hst, hk⟩ := HS.out.then hp
 replace B2 := Aside0.mk (HS.out.at_.apart B2.out NG.out.1 (by decide) hk)
 replace BE := Aside0.mk (HS.out.at_.apart BE.out NG.out.2 (by decide) hk)
 replace HS := Aside0.mk hst
 clear hp hst hk d2 ce_0 ce_1 ce_2 ce_3 ce_4 ce_5 ce_6 ce_7 ce_8 ce_9 ce_10 ce_11
 have d2 := (blk_cell B2.out 0).trans rfl
 have ce_0 := (blk_cell BE.out 0).trans rfl
 have ce_1 := (blk_cell BE.out 1).trans rfl
 have ce_2 := (blk_cell BE.out 2).trans rfl
 have ce_3 := (blk_cell BE.out 3).trans rfl
 have ce_4 := (blk_cell BE.out 4).trans rfl
 have ce_5 := (blk_cell BE.out 5).trans rfl
 have ce_6 := (blk_cell BE.out 6).trans rfl
 have ce_7 := (blk_cell BE.out 7).trans rfl
 have ce_8 := (blk_cell BE.out 8).trans rfl
 have ce_9 := (blk_cell BE.out 9).trans rfl
 have ce_10 := (blk_cell BE.out 10).trans rfl
 have ce_11 := (blk_cell BE.out 11).trans rfl
 go_wp2_with fail
 refine (between_calls (w0 := w0) (gp := gp) 164 _ _ stmt1_eg s.args.length HAM.out (fun i => wE (s.args.getD i z38)) (fun W => W.heap[g2]? = some (.cells #[.pointer (some ⟨gp, 0, none⟩)] 109 (0, 0)) ∧ W.heap[g3]? = some (.cells #[.int .i64 s.op, .string s.name, .int .i64 s.pos, .int .i64 s.fn, .slice sA4 (s.names).length sc4, .int .i64 s.e.f0, .string s.e.f1, .int .i64 s.e.f2, .slice sA8 (s.e.f3).length sc8, .slice sA9 (s.e.f4).length sc9, .slice sA6 (s.args).length sc6, .slice sA7 (s.arms).length sc7] 41 (0, 0))) (fun W W' vc wc hp hi hk => ⟨hp.apart hi.1 NG.out.1 (by decide) hk, hp.apart hi.2 NG.out.2 (by decide) hk⟩) (fun W vc wc i hi hp hinv hln => stmt1_calls hp s.args HX.out s rfl sA4 sA8 sA9 sA6 sA7 sc4 sc8 sc9 sc6 sc7 sG6.out g2 g3 hinv.1 hinv.2 i hi hln) HS.out.at_ ⟨B2.out, BE.out⟩ (by have := HLN.out; unfold argsW at this; simp only [List.length_append, List.length_cons, List.length_nil] at this ⊢; omega)).mono ?_
 intro e w26 hp
 obtain ⟨rfl, v26, hst, hk⟩ := HS.out.then hp
 replace B2 := Aside0.mk (HS.out.at_.apart B2.out NG.out.1 (by decide) hk)
 replace BE := Aside0.mk (HS.out.at_.apart BE.out NG.out.2 (by decide) hk)
 replace HS := Aside0.mk hst
 clear hp hst hk d2 ce_0 ce_1 ce_2 ce_3 ce_4 ce_5 ce_6 ce_7 ce_8 ce_9 ce_10 ce_11
 have d2 := (blk_cell B2.out 0).trans rfl
 have ce_0 := (blk_cell BE.out 0).trans rfl
 have ce_1 := (blk_cell BE.out 1).trans rfl
 have ce_2 := (blk_cell BE.out 2).trans rfl
 have ce_3 := (blk_cell BE.out 3).trans rfl
 have ce_4 := (blk_cell BE.out 4).trans rfl
 have ce_5 := (blk_cell BE.out 5).trans rfl
 have ce_6 := (blk_cell BE.out 6).trans rfl
 have ce_7 := (blk_cell BE.out 7).trans rfl
 have ce_8 := (blk_cell BE.out 8).trans rfl
 have ce_9 := (blk_cell BE.out 9).trans rfl
 have ce_10 := (blk_cell BE.out 10).trans rfl
 have ce_11 := (blk_cell BE.out 11).trans rfl
 go_wp2_with fail
 refine (eput_lits HS.out.at_ [semS] (by simp) (by have := HLN.out; simp only [argsW, List.length_append, List.length_cons, List.length_nil] at this ⊢; omega) _ rfl 1 rfl).mono ?_
 intro e w27 hp
 obtain ⟨rfl, v27, hst, hk⟩ := HS.out.then hp
 replace B2 := Aside0.mk (HS.out.at_.apart B2.out NG.out.1 (by decide) hk)
 replace BE := Aside0.mk (HS.out.at_.apart BE.out NG.out.2 (by decide) hk)
 replace HS := Aside0.mk hst
 clear hp hst hk d2 ce_0 ce_1 ce_2 ce_3 ce_4 ce_5 ce_6 ce_7 ce_8 ce_9 ce_10 ce_11
 have d2 := (blk_cell B2.out 0).trans rfl
 have ce_0 := (blk_cell BE.out 0).trans rfl
 have ce_1 := (blk_cell BE.out 1).trans rfl
 have ce_2 := (blk_cell BE.out 2).trans rfl
 have ce_3 := (blk_cell BE.out 3).trans rfl
 have ce_4 := (blk_cell BE.out 4).trans rfl
 have ce_5 := (blk_cell BE.out 5).trans rfl
 have ce_6 := (blk_cell BE.out 6).trans rfl
 have ce_7 := (blk_cell BE.out 7).trans rfl
 have ce_8 := (blk_cell BE.out 8).trans rfl
 have ce_9 := (blk_cell BE.out 9).trans rfl
 have ce_10 := (blk_cell BE.out 10).trans rfl
 have ce_11 := (blk_cell BE.out 11).trans rfl
 go_wp2_with fail
 go_end0
 exact HS.out.done rfl
set_option maxHeartbeats 4000000 in
theorem stmt_4 (hL : LaidR w0) (s : FS) (n1 : s.op ≠ 1) (n2 : s.op ≠ 2) (n3 : s.op ≠ 3) (e4 : s.op = 4) (hp : In64 s.pos ∧ In64 s.fn) : SSays w0 gp s := by
 intro w v ws cs h hK hl
 obtain ⟨sA4, sc4, sA8, sc8, sA9, sc9, sA6, sc6, sA7, sc7, rfl, sl4, sg4, sl8, sg8, sl9, sg9, sl6, sg6, sl7, sg7⟩ := kFS_openV hK
 have SK := Aside0.mk hK
 have HL := Aside0.mk hL
 have hW : wS s = [resetS] ++ callW s.fn s.pos ++ [semS] := by rw [wS_eq]; rw [if_neg n1, if_neg n2, if_neg n3, if_pos e4]
 rw [hW] at hl ⊢
 have HLN := Aside0.mk hl
 have HKE := Aside0.mk (k38_mk w0 s.e sl8 sg8 sl9 sg9)
 have sG4 := Aside0.mk sg4; have sG6 := Aside0.mk sg6; have sG7 := Aside0.mk sg7
 have hs := st2 w (.cells #[.pointer (some ⟨gp, 0, none⟩)] 109) (.cells #[.int .i64 s.op, .string s.name, .int .i64 s.pos, .int .i64 s.fn, .slice sA4 (s.names).length sc4, .int .i64 s.e.f0, .string s.e.f1, .int .i64 s.e.f2, .slice sA8 (s.e.f3).length sc8, .slice sA9 (s.e.f4).length sc9, .slice sA6 (s.args).length sc6, .slice sA7 (s.arms).length sc7] 41)
 have NG := Aside0.mk (show w.heap.size ≠ gp ∧ w.heap.size + 1 ≠ gp from by have := h.lt; omega)
 have HS0 := Aside0.mk (PrSt.start h)
 clear hl hK hL hW sl4 sg4 sl8 sg8 sl9 sg9 sl6 sg6 sl7 sg7 h
 have o1 : (s.op == (1 : Int)) = false := beq_eq_false_iff_ne.2 n1
 have o2 : (s.op == (2 : Int)) = false := beq_eq_false_iff_ne.2 n2
 have o3 : (s.op == (3 : Int)) = false := beq_eq_false_iff_ne.2 n3
 have o4 : (s.op == (4 : Int)) = true := by rw [e4]; rfl
 clear n1 n2 n3 e4
 go_enter Tryz.func136, Tryz.ntmps136
 go_upto_region 1 with fail
 generalize (w.alloc (.cells #[.pointer (some ⟨gp, 0, none⟩)] 109)).alloc (.cells #[.int .i64 s.op, .string s.name, .int .i64 s.pos, .int .i64 s.fn, .slice sA4 (s.names).length sc4, .int .i64 s.e.f0, .string s.e.f1, .int .i64 s.e.f2, .slice sA8 (s.e.f3).length sc8, .slice sA9 (s.e.f4).length sc9, .slice sA6 (s.args).length sc6, .slice sA7 (s.arms).length sc7] 41) = w1 at hs ⊢
 obtain ⟨b2, b3, hb⟩ := hs
 have HS := Aside0.mk (HS0.out.below hb)
 clear hb HS0
 generalize w.heap.size + 1 = g3 at b3 NG ⊢
 obtain ⟨g2, hq⟩ : ∃ g2, w.heap.size = g2 := ⟨_, rfl⟩
 rw [hq] at b2 NG ⊢
 clear hq
 have B2 := Aside0.mk b2; have BE := Aside0.mk b3
 clear b2 b3
 have d2 := (blk_cell B2.out 0).trans rfl
 have HP := Aside0.mk hp; clear hp
 have ce_0 := (blk_cell BE.out 0).trans rfl
 have ce_1 := (blk_cell BE.out 1).trans rfl
 have ce_2 := (blk_cell BE.out 2).trans rfl
 have ce_3 := (blk_cell BE.out 3).trans rfl
 have ce_4 := (blk_cell BE.out 4).trans rfl
 have ce_5 := (blk_cell BE.out 5).trans rfl
 have ce_6 := (blk_cell BE.out 6).trans rfl
 have ce_7 := (blk_cell BE.out 7).trans rfl
 have ce_8 := (blk_cell BE.out 8).trans rfl
 have ce_9 := (blk_cell BE.out 9).trans rfl
 have ce_10 := (blk_cell BE.out 10).trans rfl
 have ce_11 := (blk_cell BE.out 11).trans rfl
 go_wp2_with fail
 refine (eput_lits HS.out.at_ [resetS] (by simp) (by have := HLN.out; simp only [List.length_append, List.length_cons, List.length_nil] at this ⊢; omega) _ rfl 1 rfl).mono ?_
 intro e w28 hp
 obtain ⟨rfl, v28, hst, hk⟩ := HS.out.then hp
 replace B2 := Aside0.mk (HS.out.at_.apart B2.out NG.out.1 (by decide) hk)
 replace BE := Aside0.mk (HS.out.at_.apart BE.out NG.out.2 (by decide) hk)
 replace HS := Aside0.mk hst
 clear hp hst hk d2 ce_0 ce_1 ce_2 ce_3 ce_4 ce_5 ce_6 ce_7 ce_8 ce_9 ce_10 ce_11
 have d2 := (blk_cell B2.out 0).trans rfl
 have ce_0 := (blk_cell BE.out 0).trans rfl
 have ce_1 := (blk_cell BE.out 1).trans rfl
 have ce_2 := (blk_cell BE.out 2).trans rfl
 have ce_3 := (blk_cell BE.out 3).trans rfl
 have ce_4 := (blk_cell BE.out 4).trans rfl
 have ce_5 := (blk_cell BE.out 5).trans rfl
 have ce_6 := (blk_cell BE.out 6).trans rfl
 have ce_7 := (blk_cell BE.out 7).trans rfl
 have ce_8 := (blk_cell BE.out 8).trans rfl
 have ce_9 := (blk_cell BE.out 9).trans rfl
 have ce_10 := (blk_cell BE.out 10).trans rfl
 have ce_11 := (blk_cell BE.out 11).trans rfl
 go_wp2_with fail
 refine (wcall_calls HL.out HS.out.at_ s _ SK.out HP.out (by have := HLN.out; simp only [List.length_append, List.length_cons, List.length_nil] at this ⊢; omega)).mono ?_
 intro e w29 hp
 obtain ⟨rfl, v29, hst, hk⟩ := HS.out.then hp
 replace B2 := Aside0.mk (HS.out.at_.apart B2.out NG.out.1 (by decide) hk)
 replace BE := Aside0.mk (HS.out.at_.apart BE.out NG.out.2 (by decide) hk)
 replace HS := Aside0.mk hst
 clear hp hst hk d2 ce_0 ce_1 ce_2 ce_3 ce_4 ce_5 ce_6 ce_7 ce_8 ce_9 ce_10 ce_11
 have d2 := (blk_cell B2.out 0).trans rfl
 have ce_0 := (blk_cell BE.out 0).trans rfl
 have ce_1 := (blk_cell BE.out 1).trans rfl
 have ce_2 := (blk_cell BE.out 2).trans rfl
 have ce_3 := (blk_cell BE.out 3).trans rfl
 have ce_4 := (blk_cell BE.out 4).trans rfl
 have ce_5 := (blk_cell BE.out 5).trans rfl
 have ce_6 := (blk_cell BE.out 6).trans rfl
 have ce_7 := (blk_cell BE.out 7).trans rfl
 have ce_8 := (blk_cell BE.out 8).trans rfl
 have ce_9 := (blk_cell BE.out 9).trans rfl
 have ce_10 := (blk_cell BE.out 10).trans rfl
 have ce_11 := (blk_cell BE.out 11).trans rfl
 go_wp2_with fail
 refine (eput_lits HS.out.at_ [semS] (by simp) (by have := HLN.out; simp only [List.length_append, List.length_cons, List.length_nil] at this ⊢; omega) _ rfl 1 rfl).mono ?_
 intro e w30 hp
 obtain ⟨rfl, v30, hst, hk⟩ := HS.out.then hp
 replace B2 := Aside0.mk (HS.out.at_.apart B2.out NG.out.1 (by decide) hk)
 replace BE := Aside0.mk (HS.out.at_.apart BE.out NG.out.2 (by decide) hk)
 replace HS := Aside0.mk hst
 clear hp hst hk d2 ce_0 ce_1 ce_2 ce_3 ce_4 ce_5 ce_6 ce_7 ce_8 ce_9 ce_10 ce_11
 have d2 := (blk_cell B2.out 0).trans rfl
 have ce_0 := (blk_cell BE.out 0).trans rfl
 have ce_1 := (blk_cell BE.out 1).trans rfl
 have ce_2 := (blk_cell BE.out 2).trans rfl
 have ce_3 := (blk_cell BE.out 3).trans rfl
 have ce_4 := (blk_cell BE.out 4).trans rfl
 have ce_5 := (blk_cell BE.out 5).trans rfl
 have ce_6 := (blk_cell BE.out 6).trans rfl
 have ce_7 := (blk_cell BE.out 7).trans rfl
 have ce_8 := (blk_cell BE.out 8).trans rfl
 have ce_9 := (blk_cell BE.out 9).trans rfl
 have ce_10 := (blk_cell BE.out 10).trans rfl
 have ce_11 := (blk_cell BE.out 11).trans rfl
 go_wp2_with fail
 go_end0
 exact HS.out.done rfl
set_option maxHeartbeats 4000000 in
theorem stmt_6 (hL : LaidR w0) (s : FS) (n1 : s.op ≠ 1) (n2 : s.op ≠ 2) (n3 : s.op ≠ 3) (n4 : s.op ≠ 4) (n5 : s.op ≠ 5)  : SSays w0 gp s := by
 intro w v ws cs h hK hl
 obtain ⟨sA4, sc4, sA8, sc8, sA9, sc9, sA6, sc6, sA7, sc7, rfl, sl4, sg4, sl8, sg8, sl9, sg9, sl6, sg6, sl7, sg7⟩ := kFS_openV hK
 have SK := Aside0.mk hK
 have HL := Aside0.mk hL
 have hW : wS s = [qmS] ++ [semS] := by rw [wS_eq]; rw [if_neg n1, if_neg n2, if_neg n3, if_neg n4, if_neg n5]
 rw [hW] at hl ⊢
 have HLN := Aside0.mk hl
 have HKE := Aside0.mk (k38_mk w0 s.e sl8 sg8 sl9 sg9)
 have sG4 := Aside0.mk sg4; have sG6 := Aside0.mk sg6; have sG7 := Aside0.mk sg7
 have hs := st2 w (.cells #[.pointer (some ⟨gp, 0, none⟩)] 109) (.cells #[.int .i64 s.op, .string s.name, .int .i64 s.pos, .int .i64 s.fn, .slice sA4 (s.names).length sc4, .int .i64 s.e.f0, .string s.e.f1, .int .i64 s.e.f2, .slice sA8 (s.e.f3).length sc8, .slice sA9 (s.e.f4).length sc9, .slice sA6 (s.args).length sc6, .slice sA7 (s.arms).length sc7] 41)
 have NG := Aside0.mk (show w.heap.size ≠ gp ∧ w.heap.size + 1 ≠ gp from by have := h.lt; omega)
 have HS0 := Aside0.mk (PrSt.start h)
 clear hl hK hL hW sl4 sg4 sl8 sg8 sl9 sg9 sl6 sg6 sl7 sg7 h
 have o1 : (s.op == (1 : Int)) = false := beq_eq_false_iff_ne.2 n1
 have o2 : (s.op == (2 : Int)) = false := beq_eq_false_iff_ne.2 n2
 have o3 : (s.op == (3 : Int)) = false := beq_eq_false_iff_ne.2 n3
 have o4 : (s.op == (4 : Int)) = false := beq_eq_false_iff_ne.2 n4
 have o5 : (s.op == (5 : Int)) = false := beq_eq_false_iff_ne.2 n5
 clear n1 n2 n3 n4 n5
 go_enter Tryz.func136, Tryz.ntmps136
 go_upto_region 1 with fail
 generalize (w.alloc (.cells #[.pointer (some ⟨gp, 0, none⟩)] 109)).alloc (.cells #[.int .i64 s.op, .string s.name, .int .i64 s.pos, .int .i64 s.fn, .slice sA4 (s.names).length sc4, .int .i64 s.e.f0, .string s.e.f1, .int .i64 s.e.f2, .slice sA8 (s.e.f3).length sc8, .slice sA9 (s.e.f4).length sc9, .slice sA6 (s.args).length sc6, .slice sA7 (s.arms).length sc7] 41) = w1 at hs ⊢
 obtain ⟨b2, b3, hb⟩ := hs
 have HS := Aside0.mk (HS0.out.below hb)
 clear hb HS0
 generalize w.heap.size + 1 = g3 at b3 NG ⊢
 obtain ⟨g2, hq⟩ : ∃ g2, w.heap.size = g2 := ⟨_, rfl⟩
 rw [hq] at b2 NG ⊢
 clear hq
 have B2 := Aside0.mk b2; have BE := Aside0.mk b3
 clear b2 b3
 have d2 := (blk_cell B2.out 0).trans rfl
 have ce_0 := (blk_cell BE.out 0).trans rfl
 go_wp2_with fail
 refine (eput_lits HS.out.at_ [qmS] (by simp) (by have := HLN.out; simp only [List.length_append, List.length_cons, List.length_nil] at this ⊢; omega) _ rfl 1 rfl).mono ?_
 intro e w31 hp
 obtain ⟨rfl, v31, hst, hk⟩ := HS.out.then hp
 replace B2 := Aside0.mk (HS.out.at_.apart B2.out NG.out.1 (by decide) hk)
 replace BE := Aside0.mk (HS.out.at_.apart BE.out NG.out.2 (by decide) hk)
 replace HS := Aside0.mk hst
 clear hp hst hk d2 ce_0
 have d2 := (blk_cell B2.out 0).trans rfl
 have ce_0 := (blk_cell BE.out 0).trans rfl
 go_wp2_with fail
 refine (eput_lits HS.out.at_ [semS] (by simp) (by have := HLN.out; simp only [List.length_append, List.length_cons, List.length_nil] at this ⊢; omega) _ rfl 1 rfl).mono ?_
 intro e w32 hp
 obtain ⟨rfl, v32, hst, hk⟩ := HS.out.then hp
 replace B2 := Aside0.mk (HS.out.at_.apart B2.out NG.out.1 (by decide) hk)
 replace BE := Aside0.mk (HS.out.at_.apart BE.out NG.out.2 (by decide) hk)
 replace HS := Aside0.mk hst
 clear hp hst hk d2 ce_0
 have d2 := (blk_cell B2.out 0).trans rfl
 have ce_0 := (blk_cell BE.out 0).trans rfl
 go_wp2_with fail
 go_end0
 exact HS.out.done rfl
set_option maxHeartbeats 4000000 in
theorem stmt_5 (hL : LaidR w0) (s : FS) (n1 : s.op ≠ 1) (n2 : s.op ≠ 2) (n3 : s.op ≠ 3) (n4 : s.op ≠ 4) (e5 : s.op = 5) (hn : ∀ a ∈ s.arms, In64 a.1) (hr : ∀ a ∈ s.arms, BSays w0 gp a.2) : SSays w0 gp s := by
 intro w v ws cs h hK hl
 obtain ⟨sA4, sc4, sA8, sc8, sA9, sc9, sA6, sc6, sA7, sc7, rfl, sl4, sg4, sl8, sg8, sl9, sg9, sl6, sg6, sl7, sg7⟩ := kFS_openV hK
 have SK := Aside0.mk hK
 have HL := Aside0.mk hL
 have hW : wS s = [switchS, s.name, braS] ++ wA s.arms ++ [ketS] := by rw [wS_eq]; rw [if_neg n1, if_neg n2, if_neg n3, if_neg n4, if_pos e5]
 rw [hW] at hl ⊢
 have HLN := Aside0.mk hl
 have HKE := Aside0.mk (k38_mk w0 s.e sl8 sg8 sl9 sg9)
 have sG4 := Aside0.mk sg4; have sG6 := Aside0.mk sg6; have sG7 := Aside0.mk sg7
 have hs := st2 w (.cells #[.pointer (some ⟨gp, 0, none⟩)] 109) (.cells #[.int .i64 s.op, .string s.name, .int .i64 s.pos, .int .i64 s.fn, .slice sA4 (s.names).length sc4, .int .i64 s.e.f0, .string s.e.f1, .int .i64 s.e.f2, .slice sA8 (s.e.f3).length sc8, .slice sA9 (s.e.f4).length sc9, .slice sA6 (s.args).length sc6, .slice sA7 (s.arms).length sc7] 41)
 have NG := Aside0.mk (show w.heap.size ≠ gp ∧ w.heap.size + 1 ≠ gp from by have := h.lt; omega)
 have HS0 := Aside0.mk (PrSt.start h)
 clear hl hK hL hW sl4 sg4 sl8 sg8 sl9 sg9 sl6 sg6 sl7 sg7 h
 have o1 : (s.op == (1 : Int)) = false := beq_eq_false_iff_ne.2 n1
 have o2 : (s.op == (2 : Int)) = false := beq_eq_false_iff_ne.2 n2
 have o3 : (s.op == (3 : Int)) = false := beq_eq_false_iff_ne.2 n3
 have o4 : (s.op == (4 : Int)) = false := beq_eq_false_iff_ne.2 n4
 have o5 : (s.op == (5 : Int)) = true := by rw [e5]; rfl
 clear n1 n2 n3 n4 e5
 go_enter Tryz.func136, Tryz.ntmps136
 go_upto_region 1 with fail
 generalize (w.alloc (.cells #[.pointer (some ⟨gp, 0, none⟩)] 109)).alloc (.cells #[.int .i64 s.op, .string s.name, .int .i64 s.pos, .int .i64 s.fn, .slice sA4 (s.names).length sc4, .int .i64 s.e.f0, .string s.e.f1, .int .i64 s.e.f2, .slice sA8 (s.e.f3).length sc8, .slice sA9 (s.e.f4).length sc9, .slice sA6 (s.args).length sc6, .slice sA7 (s.arms).length sc7] 41) = w1 at hs ⊢
 obtain ⟨b2, b3, hb⟩ := hs
 have HS := Aside0.mk (HS0.out.below hb)
 clear hb HS0
 generalize w.heap.size + 1 = g3 at b3 NG ⊢
 obtain ⟨g2, hq⟩ : ∃ g2, w.heap.size = g2 := ⟨_, rfl⟩
 rw [hq] at b2 NG ⊢
 clear hq
 have B2 := Aside0.mk b2; have BE := Aside0.mk b3
 clear b2 b3
 have d2 := (blk_cell B2.out 0).trans rfl
 have HN := Aside0.mk hn; have HR := Aside0.mk hr; clear hn hr
 have ce_0 := (blk_cell BE.out 0).trans rfl
 have ce_1 := (blk_cell BE.out 1).trans rfl
 have ce_2 := (blk_cell BE.out 2).trans rfl
 have ce_3 := (blk_cell BE.out 3).trans rfl
 have ce_4 := (blk_cell BE.out 4).trans rfl
 have ce_5 := (blk_cell BE.out 5).trans rfl
 have ce_6 := (blk_cell BE.out 6).trans rfl
 have ce_7 := (blk_cell BE.out 7).trans rfl
 have ce_8 := (blk_cell BE.out 8).trans rfl
 have ce_9 := (blk_cell BE.out 9).trans rfl
 have ce_10 := (blk_cell BE.out 10).trans rfl
 have ce_11 := (blk_cell BE.out 11).trans rfl
 have hmax : s.arms.length ≤ 9223372036854775807 := sG7.out.2.1
 go_wp2_with fail
 refine (eput_lits HS.out.at_ [switchS, s.name, braS] (by simp) (by have := HLN.out; simp only [List.length_append, List.length_cons, List.length_nil] at this ⊢; omega) _ rfl 3 rfl).mono ?_
 intro e w33 hp
 obtain ⟨rfl, v33, hst, hk⟩ := HS.out.then hp
 replace B2 := Aside0.mk (HS.out.at_.apart B2.out NG.out.1 (by decide) hk)
 replace BE := Aside0.mk (HS.out.at_.apart BE.out NG.out.2 (by decide) hk)
 replace HS := Aside0.mk hst
 clear hp hst hk d2 ce_0 ce_1 ce_2 ce_3 ce_4 ce_5 ce_6 ce_7 ce_8 ce_9 ce_10 ce_11
 have d2 := (blk_cell B2.out 0).trans rfl
 have ce_0 := (blk_cell BE.out 0).trans rfl
 have ce_1 := (blk_cell BE.out 1).trans rfl
 have ce_2 := (blk_cell BE.out 2).trans rfl
 have ce_3 := (blk_cell BE.out 3).trans rfl
 have ce_4 := (blk_cell BE.out 4).trans rfl
 have ce_5 := (blk_cell BE.out 5).trans rfl
 have ce_6 := (blk_cell BE.out 6).trans rfl
 have ce_7 := (blk_cell BE.out 7).trans rfl
 have ce_8 := (blk_cell BE.out 8).trans rfl
 have ce_9 := (blk_cell BE.out 9).trans rfl
 have ce_10 := (blk_cell BE.out 10).trans rfl
 have ce_11 := (blk_cell BE.out 11).trans rfl
 go_wp2_with fail
 clear d2 ce_0 ce_1 ce_2 ce_3 ce_4 ce_5 ce_6 ce_7 ce_8 ce_9 ce_10 ce_11
 go_loopg [74] s.arms.length (fun gg s74 wr => ∃ (kk : Nat) (vc : Value), kk ≤ s.arms.length ∧ s.arms.length - kk ≤ gg ∧ s74 = .int .i64 (kk : Int) ∧ Aside0 (PrSt 111 w0 gp v ws w ([] ++ [switchS, s.name, braS] ++ wA (s.arms.take kk)) wr vc) ∧ Aside0 (wr.heap[g2]? = some (.cells #[.pointer (some ⟨gp, 0, none⟩)] 109 (0, 0))) ∧ Aside0 (wr.heap[g3]? = some (.cells #[.int .i64 s.op, .string s.name, .int .i64 s.pos, .int .i64 s.fn, .slice sA4 (s.names).length sc4, .int .i64 s.e.f0, .string s.e.f1, .int .i64 s.e.f2, .slice sA8 (s.e.f3).length sc8, .slice sA9 (s.e.f4).length sc9, .slice sA6 (s.args).length sc6, .slice sA7 (s.arms).length sc7] 41 (0, 0))))
 case atStart => exact ⟨0, _, Nat.zero_le _, by omega, rfl, ⟨by rw [List.take_zero, wA, List.append_nil]; exact HS.out⟩, B2, BE⟩
 case round =>
  clear HS B2 BE
  obtain ⟨kk, vc, hkk, hgk, rfl, HS, B2, BE⟩ := hrel
  have d2 := (blk_cell B2.out 0).trans rfl
  have ce_11 := (blk_cell BE.out 11).trans rfl
  by_cases hlt : kk < s.arms.length
  ·have hltz : (kk : Int) < (s.arms.length : Int) := by omega
   have HMA := Aside0.mk (getDm hlt zFA)
   have HUN := Aside0.mk (wA_le hlt)
   have HTK := Aside0.mk (wA_take hlt)
   obtain ⟨aad, acs, hae, _, aK, acc⟩ := Kd.C_get sG7.out zFA (kk : Int) (by omega) (by omega)
   subst hae
   have aK' := aK
   obtain ⟨aA1, ac1, rfl, al1, ag1⟩ := kFA_open aK'
   have ax0 := (HS.out.at_.below.cell (World.block_lt_of_cell? w0 _ (acc 0 _ rfl))).trans (acc 0 _ rfl)
   have ax1 := (HS.out.at_.below.cell (World.block_lt_of_cell? w0 _ (acc 1 _ rfl))).trans (acc 1 _ rfl)
   rw [show (kFA).sz = 2 from rfl, Nat.add_zero, Int.toNat_natCast] at ax0
   rw [show (kFA).sz = 2 from rfl, Int.toNat_natCast, add_field _ _ 1 (by omega)] at ax1
   clear acc
   try simp only [Int.toNat_natCast] at ax0 ax1 aK al1 ag1
   generalize Ya0 : s.arms.getD kk zFA = a at ax0 ax1 aK al1 ag1 HMA HUN HTK
   have aG1 := Aside0.mk ag1; clear al1 ag1 aK Ya0
   rw [wP_eq] at HUN HTK
   have HNA := Aside0.mk (HN.out a HMA.out)
   have HRA := Aside0.mk (HR.out a HMA.out)
   go_upto_region 24 with ((with_reducible refine gate_store (t := 147) (p := 5) rfl ?_); refine store_whole rfl rfl 147 _ _ rfl wr.heap.size _ 147 rfl (blk_new _ _) _ rfl rfl rfl (by simp [Value.oneCell']) ?_; intro w2 hb2 hg2; have hba := below_as (Below.refl wr.heap.size wr) hg2; have NA := Aside0.mk (show wr.heap.size ≠ gp from by have := HS.out.at_.lt; omega); replace HS := Aside0.mk (HS.out.below hba); replace B2 := Aside0.mk (below_blk B2.out hba); replace BE := Aside0.mk (below_blk BE.out hba); obtain ⟨ga, hq_⟩ : ∃ g_, g_ = wr.heap.size := ⟨_, rfl⟩; rw [← hq_] at hb2 NA; rw [← hq_]; have BA := Aside0.mk hb2; clear hb2 hg2 hq_ hba)
   clear ax0 ax1 d2 ce_11
   have d2 := (blk_cell B2.out 0).trans rfl
   have da0 := (blk_cell BA.out 0).trans rfl
   have HI := Aside0.mk (fun W (hW : Below w0.heap.size w0 W) => fmt_calls a.1 HNA.out.1 HNA.out.2 W (HL.out.below hW))
   go_cut [78] from 78 to 83 (fun s78 wx => ∃ vc2 : Value, Aside0 (PrSt 111 w0 gp v ws w ([] ++ [switchS, s.name, braS] ++ wA (s.arms.take kk) ++ [caseS, itoaB a.1]) wx vc2) ∧ Aside0 (wx.heap[g2]? = some (.cells #[.pointer (some ⟨gp, 0, none⟩)] 109 (0, 0))) ∧ Aside0 (wx.heap[g3]? = some (.cells #[.int .i64 s.op, .string s.name, .int .i64 s.pos, .int .i64 s.fn, .slice sA4 (s.names).length sc4, .int .i64 s.e.f0, .string s.e.f1, .int .i64 s.e.f2, .slice sA8 (s.e.f3).length sc8, .slice sA9 (s.e.f4).length sc9, .slice sA6 (s.args).length sc6, .slice (some aad) (s.arms).length sc7] 41 (0, 0))) ∧ Aside0 (wx.heap[ga]? = some (.cells #[.int .i64 a.1, .slice aA1 a.2.length ac1] 147 (0, 0))))
   case first =>
    have d2a := fun (W : World) (hb : Below w2.heap.size w2 W) => (blk_cell (below_blk B2.out hb) 0).trans rfl
    go_region_with (first | (go_at_call 150; refine (HI.out _ (below_step HS.out.at_.below (by repeat (first | exact Below.refl _ _ | apply below_drew1)))).mono ?_; rintro e w5 ⟨rfl, hb5⟩; have hb6 := below_step (show Below w2.heap.size w2 _ from (by repeat (first | exact Below.refl _ _ | apply below_drew1))) hb5; have HS5 := Aside0.mk (HS.out.below hb6); have B25 := Aside0.mk (below_blk B2.out hb6); have BE5 := Aside0.mk (below_blk BE.out hb6); have BA5 := Aside0.mk (below_blk BA.out hb6); clear hb5 hb6; have e2 := (blk_cell B25.out 0).trans rfl; have e2a := fun (ob : Obj) => cell?_alloc_some ob e2) | (go_at_call 93; refine (eput_lits (HS5.out.at_.below' (by repeat (first | exact Below.refl _ _ | apply below_drew1))) [caseS, itoaB a.1] (by simp) (by have := HLN.out; have h2 := HUN.out; simp only [List.length_append, List.length_cons, List.length_nil] at this h2 ⊢; omega) _ rfl 2 rfl).mono ?_; intro e w6 hp; obtain ⟨rfl, v6, hst, hk⟩ := (HS5.out.below (by repeat (first | exact Below.refl _ _ | apply below_drew1))).then hp; have B26 := Aside0.mk ((HS5.out.at_.below' (by repeat (first | exact Below.refl _ _ | apply below_drew1))).apart (below_blk B25.out (by repeat (first | exact Below.refl _ _ | apply below_drew1))) NG.out.1 (by decide) hk); have BE6 := Aside0.mk ((HS5.out.at_.below' (by repeat (first | exact Below.refl _ _ | apply below_drew1))).apart (below_blk BE5.out (by repeat (first | exact Below.refl _ _ | apply below_drew1))) NG.out.2 (by decide) hk); have BA6 := Aside0.mk ((HS5.out.at_.below' (by repeat (first | exact Below.refl _ _ | apply below_drew1))).apart (below_blk BA5.out (by repeat (first | exact Below.refl _ _ | apply below_drew1))) NA.out (by decide) hk); have HS6 := Aside0.mk hst; clear hp hst hk))
    all_goals
     go_wp2_with fail
     go_meet
     case rel => exact ⟨_, HS6, B26, BE6, BA6⟩
   case rest =>
   clear HS B2 BE BA d2 da0 HI
   obtain ⟨vc2, HS, B2, BE, BA⟩ := hcut
   have d2 := (blk_cell B2.out 0).trans rfl
   have da1 := (blk_cell BA.out 1).trans rfl
   go_wp2_with fail
   refine (HRA.out _ _ _ aA1 ac1 HS.out.at_ aG1.out (by have := HLN.out; have h2 := HUN.out; simp only [List.length_append, List.length_cons, List.length_nil] at this h2 ⊢; omega)).mono ?_
   intro e w34 hp
   obtain ⟨rfl, v34, hst, hk⟩ := HS.out.then hp
   replace B2 := Aside0.mk (HS.out.at_.apart B2.out NG.out.1 (by decide) hk)
   replace BE := Aside0.mk (HS.out.at_.apart BE.out NG.out.2 (by decide) hk)
   replace HS := Aside0.mk hst
   clear hp hst hk d2 da1
   go_wp2_with fail
   go_roundg (s.arms.length - (kk + 1))
   case measure => omega
   case rel => exact ⟨kk + 1, _, by omega, by omega, by go_num, ⟨by rw [HTK.out, ← List.append_assoc, ← List.append_assoc]; exact HS.out⟩, B2, BE⟩
  ·obtain rfl : kk = s.arms.length := by omega
   have hltz : ¬ ((s.arms.length : Int) < (s.arms.length : Int)) := by omega
   replace HS := Aside0.mk (show PrSt 111 w0 gp v ws w ([] ++ [switchS, s.name, braS] ++ wA s.arms) wr vc from by have := HS.out; rw [List.take_length] at this; exact this)
   go_wp2_with fail
   refine (eput_lits HS.out.at_ [ketS] (by simp) (by have := HLN.out; simp only [List.length_append, List.length_cons, List.length_nil] at this ⊢; omega) _ rfl 1 rfl).mono ?_
   intro e w35 hp
   obtain ⟨rfl, v35, hst, hk⟩ := HS.out.then hp
   replace B2 := Aside0.mk (HS.out.at_.apart B2.out NG.out.1 (by decide) hk)
   replace BE := Aside0.mk (HS.out.at_.apart BE.out NG.out.2 (by decide) hk)
   replace HS := Aside0.mk hst
   clear hp hst hk d2 ce_11
   have d2 := (blk_cell B2.out 0).trans rfl
   have ce_11 := (blk_cell BE.out 11).trans rfl
   go_wp2_with fail
   (try simp only [Exit.inBlock, Exit.then])
   refine bodyPost_ret (results_none rfl _ _ _) rfl ?_
   exact HS.out.done rfl
theorem wstmt_calls (hL : LaidR w0) (s : FS) (he : s.op = 1 ∨ s.op = 2 → ExSh s.e) (ha : s.op = 3 → ∀ x ∈ s.args, ExSh x) (hp : In64 s.pos ∧ In64 s.fn) (hn : ∀ a ∈ s.arms, In64 a.1) (hr : ∀ a ∈ s.arms, BSays w0 gp a.2) : SSays w0 gp s := by
 by_cases e1 : s.op = 1
 ·exact stmt_1 hL s e1 (wexpr_calls hL (he (.inl e1)))
 by_cases e2 : s.op = 2
 ·exact stmt_2 hL s e1 e2 (wexpr_calls hL (he (.inr e2))) hp.1
 by_cases e3 : s.op = 3
 ·exact stmt_3 hL s e1 e2 e3 (fun x hx => wexpr_calls hL (ha e3 x hx)) hp
 by_cases e4 : s.op = 4
 ·exact stmt_4 hL s e1 e2 e3 e4 hp
 by_cases e5 : s.op = 5
 ·exact stmt_5 hL s e1 e2 e3 e4 e5 hn hr
 ·exact stmt_6 hL s e1 e2 e3 e4 e5
set_option maxHeartbeats 4000000 in
theorem wblock_step (l : List FS) (hst : ∀ s ∈ l, SSays w0 gp s) : BSays w0 gp l := by
 intro w v ws A c h hC hl
 have HLN := Aside0.mk (show ws.length + ([braS] ++ wLs l ++ [ketS]).length ≤ 8796093022208 from hl)
 have HC := Aside0.mk hC
 have HST := Aside0.mk hst
 have HS := Aside0.mk (PrSt.start h)
 have hmax : l.length ≤ 9223372036854775807 := hC.2.1
 clear hl hC hst h
 go_enter Tryz.func98, Tryz.ntmps98
 go_wp2_with fail
 refine (eput_lits HS.out.at_ [braS] (by simp) (by have := HLN.out; simp only [List.length_append, List.length_cons, List.length_nil] at this ⊢; omega) _ rfl 1 rfl).mono ?_
 intro e w36 hp
 obtain ⟨rfl, v36, hst, hk⟩ := HS.out.then hp
 replace HS := Aside0.mk hst
 clear hp hst hk
 go_wp2_with fail
 go_loopg [11] l.length (fun gg s11 wr => ∃ (kk : Nat) (vc : Value), kk ≤ l.length ∧ l.length - kk ≤ gg ∧ s11 = .int .i64 (kk : Int) ∧ Aside0 (PrSt 111 w0 gp v ws w ([] ++ [braS] ++ wLs (l.take kk)) wr vc))
 case atStart => exact ⟨0, _, Nat.zero_le _, by omega, rfl, ⟨by rw [List.take_zero, wLs, List.append_nil]; exact HS.out⟩⟩
 case round =>
  clear HS
  obtain ⟨kk, vc, hkk, hgk, rfl, HS⟩ := hrel
  by_cases hlt : kk < l.length
  ·have hltz : (kk : Int) < (l.length : Int) := by omega
   have HM := Aside0.mk (getDm hlt zFS)
   have HUN := Aside0.mk (wLs_le hlt)
   have HTK := Aside0.mk (wLs_take hlt)
   obtain ⟨sad, scs, hse, _, sK, scc⟩ := Kd.C_get HC.out zFS (kk : Int) (by omega) (by omega)
   subst hse
   have sK' := sK
   obtain ⟨sA4, sc4, sA8, sc8, sA9, sc9, sA6, sc6, sA7, sc7, rfl, sl4, sg4, sl8, sg8, sl9, sg9, sl6, sg6, sl7, sg7⟩ := kFS_openV sK'
   have sx0 := (HS.out.at_.below.cell (World.block_lt_of_cell? w0 _ (scc 0 _ rfl))).trans (scc 0 _ rfl)
   have sx1 := (HS.out.at_.below.cell (World.block_lt_of_cell? w0 _ (scc 1 _ rfl))).trans (scc 1 _ rfl)
   have sx2 := (HS.out.at_.below.cell (World.block_lt_of_cell? w0 _ (scc 2 _ rfl))).trans (scc 2 _ rfl)
   have sx3 := (HS.out.at_.below.cell (World.block_lt_of_cell? w0 _ (scc 3 _ rfl))).trans (scc 3 _ rfl)
   have sx4 := (HS.out.at_.below.cell (World.block_lt_of_cell? w0 _ (scc 4 _ rfl))).trans (scc 4 _ rfl)
   have sx5 := (HS.out.at_.below.cell (World.block_lt_of_cell? w0 _ (scc 5 _ rfl))).trans (scc 5 _ rfl)
   have sx6 := (HS.out.at_.below.cell (World.block_lt_of_cell? w0 _ (scc 6 _ rfl))).trans (scc 6 _ rfl)
   have sx7 := (HS.out.at_.below.cell (World.block_lt_of_cell? w0 _ (scc 7 _ rfl))).trans (scc 7 _ rfl)
   have sx8 := (HS.out.at_.below.cell (World.block_lt_of_cell? w0 _ (scc 8 _ rfl))).trans (scc 8 _ rfl)
   have sx9 := (HS.out.at_.below.cell (World.block_lt_of_cell? w0 _ (scc 9 _ rfl))).trans (scc 9 _ rfl)
   have sx10 := (HS.out.at_.below.cell (World.block_lt_of_cell? w0 _ (scc 10 _ rfl))).trans (scc 10 _ rfl)
   have sx11 := (HS.out.at_.below.cell (World.block_lt_of_cell? w0 _ (scc 11 _ rfl))).trans (scc 11 _ rfl)
   rw [show (kFS).sz = 12 from rfl, Nat.add_zero, Int.toNat_natCast] at sx0
   rw [show (kFS).sz = 12 from rfl, Int.toNat_natCast, add_field _ _ 1 (by omega)] at sx1
   rw [show (kFS).sz = 12 from rfl, Int.toNat_natCast, add_field _ _ 2 (by omega)] at sx2
   rw [show (kFS).sz = 12 from rfl, Int.toNat_natCast, add_field _ _ 3 (by omega)] at sx3
   rw [show (kFS).sz = 12 from rfl, Int.toNat_natCast, add_field _ _ 4 (by omega)] at sx4
   rw [show (kFS).sz = 12 from rfl, Int.toNat_natCast, add_field _ _ 5 (by omega)] at sx5
   rw [show (kFS).sz = 12 from rfl, Int.toNat_natCast, add_field _ _ 6 (by omega)] at sx6
   rw [show (kFS).sz = 12 from rfl, Int.toNat_natCast, add_field _ _ 7 (by omega)] at sx7
   rw [show (kFS).sz = 12 from rfl, Int.toNat_natCast, add_field _ _ 8 (by omega)] at sx8
   rw [show (kFS).sz = 12 from rfl, Int.toNat_natCast, add_field _ _ 9 (by omega)] at sx9
   rw [show (kFS).sz = 12 from rfl, Int.toNat_natCast, add_field _ _ 10 (by omega)] at sx10
   rw [show (kFS).sz = 12 from rfl, Int.toNat_natCast, add_field _ _ 11 (by omega)] at sx11
   clear scc sl4 sg4 sl8 sg8 sl9 sg9 sl6 sg6 sl7 sg7
   try simp only [Int.toNat_natCast] at sx0 sx1 sx2 sx3 sx4 sx5 sx6 sx7 sx8 sx9 sx10 sx11 sK
   generalize Ys0 : l.getD kk zFS = s at sx0 sx1 sx2 sx3 sx4 sx5 sx6 sx7 sx8 sx9 sx10 sx11 sK HM HUN HTK
   have SK := Aside0.mk sK
   clear sK Ys0
   have HSA := Aside0.mk (HST.out s HM.out)
   go_upto_region 4 with ((with_reducible refine gate_store (t := 41) (p := 5) rfl ?_); refine store_whole rfl rfl 41 _ _ rfl wr.heap.size _ 41 rfl (blk_new _ _) _ rfl rfl rfl (by simp [Value.oneCell']) ?_; intro w2 hb2 hg2; have hba := below_as (Below.refl wr.heap.size wr) hg2; replace HS := Aside0.mk (HS.out.below hba); obtain ⟨ge, hq_⟩ : ∃ g_, g_ = wr.heap.size := ⟨_, rfl⟩; rw [← hq_] at hb2; rw [← hq_]; have BE := Aside0.mk hb2; clear hb2 hg2 hq_ hba)
   clear sx0 sx1 sx2 sx3 sx4 sx5 sx6 sx7 sx8 sx9 sx10 sx11
   have ce_0 := (blk_cell BE.out 0).trans rfl
   have ce_1 := (blk_cell BE.out 1).trans rfl
   have ce_2 := (blk_cell BE.out 2).trans rfl
   have ce_3 := (blk_cell BE.out 3).trans rfl
   have ce_4 := (blk_cell BE.out 4).trans rfl
   have ce_5 := (blk_cell BE.out 5).trans rfl
   have ce_6 := (blk_cell BE.out 6).trans rfl
   have ce_7 := (blk_cell BE.out 7).trans rfl
   have ce_8 := (blk_cell BE.out 8).trans rfl
   have ce_9 := (blk_cell BE.out 9).trans rfl
   have ce_10 := (blk_cell BE.out 10).trans rfl
   have ce_11 := (blk_cell BE.out 11).trans rfl
   go_wp2_with fail
   refine (HSA.out _ _ _ _ HS.out.at_ SK.out (by have := HLN.out; have h2 := HUN.out; simp only [List.length_append, List.length_cons, List.length_nil] at this h2 ⊢; omega)).mono ?_
   intro e w37 hp
   obtain ⟨rfl, v37, hst, hk⟩ := HS.out.then hp
   replace HS := Aside0.mk hst
   clear hp hst hk ce_0 ce_1 ce_2 ce_3 ce_4 ce_5 ce_6 ce_7 ce_8 ce_9 ce_10 ce_11
   go_wp2_with fail
   go_roundg (l.length - (kk + 1))
   case measure => omega
   case rel => exact ⟨kk + 1, _, by omega, by omega, by go_num, ⟨by rw [HTK.out, ← List.append_assoc]; exact HS.out⟩⟩
  ·obtain rfl : kk = l.length := by omega
   have hltz : ¬ ((l.length : Int) < (l.length : Int)) := by omega
   replace HS := Aside0.mk (show PrSt 111 w0 gp v ws w ([] ++ [braS] ++ wLs l) wr vc from by have := HS.out; rw [List.take_length] at this; exact this)
   go_wp2_with fail
   refine (eput_lits HS.out.at_ [ketS] (by simp) (by have := HLN.out; simp only [List.length_append, List.length_cons, List.length_nil] at this ⊢; omega) _ rfl 1 rfl).mono ?_
   intro e w38 hp
   obtain ⟨rfl, v38, hst, hk⟩ := HS.out.then hp
   replace HS := Aside0.mk hst
   clear hp hst hk
   go_wp2_with fail
   go_end0
   exact HS.out.done rfl
theorem wblock_calls (hL : LaidR w0) : ∀ {l : List FS}, FsSh l → BSays w0 gp l := by
 intro l hx
 induction hx with
 | mk l he ha hp hn hr ih => exact wblock_step l (fun s hs => wstmt_calls hL s (he s hs) (ha s hs) (hp s hs) (hn s hs) (ih s hs))
end
end Go.Proofs.YticndoihkfbpoaaGreatDoor
