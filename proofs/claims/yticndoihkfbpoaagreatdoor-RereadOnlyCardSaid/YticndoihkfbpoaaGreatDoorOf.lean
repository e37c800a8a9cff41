/- Package emit: the words of functions; what function and Text write. -/
import Derived.Test.YticndoihkfbpoaaGreatDoorOe
namespace Go.Proofs.YticndoihkfbpoaaGreatDoor
open Go Go.RowKit Go.Lib Go.Proofs.YticndoihkfbpoaaGreatDoorW.PrintWords Go.Proofs.YticndoihkfbpoaaGreatDoor.PScope
set_option maxRecDepth 100000
set_option linter.unusedSimpArgs false
set_option linter.unusedVariables false
attribute [local irreducible] wpStill
def flagsW : List Int → List ByteArray
 | [] => []
 | n :: r => [itoaB n] ++ [semS] ++ flagsW r
def partI (p : S103) (i : Nat) : Int := if i = 0 then p.f0 else p.f1
def partW (p : S103) : List ByteArray := btw (fun i => [itoaB (partI p i)]) 2
def partsW : List S103 → List ByteArray
 | [] => []
 | p :: r => partW p ++ [semS] ++ partsW r
def wF (f : FF) : List ByteArray := [funS] ++ namesW f.params ++ [eqS] ++ namesW f.results ++ [cellsS] ++ [itoaB f.cells] ++ [flagsS, braS] ++ flagsW f.flags ++ [ketS, partsS, braS] ++ partsW f.parts ++ [ketS] ++ wL f.body
def wFs : List FF → List ByteArray
 | [] => []
 | f :: r => wF f ++ wFs r
theorem flagsW_app : ∀ (l r : List Int), flagsW (l ++ r) = flagsW l ++ flagsW r
 | [], r => rfl
 | s :: l, r => by rw [List.cons_append, flagsW, flagsW, flagsW_app l r]; simp only [List.append_assoc]
theorem partsW_app : ∀ (l r : List S103), partsW (l ++ r) = partsW l ++ partsW r
 | [], r => rfl
 | s :: l, r => by rw [List.cons_append, partsW, partsW, partsW_app l r]; simp only [List.append_assoc]
theorem wFs_app : ∀ (l r : List FF), wFs (l ++ r) = wFs l ++ wFs r
 | [], r => rfl
 | s :: l, r => by rw [List.cons_append, wFs, wFs, wFs_app l r, List.append_assoc]
theorem flagsW_take {l : List Int} {k : Nat} (h : k < l.length) : flagsW (l.take (k + 1)) = flagsW (l.take k) ++ ([itoaB (l.getD k 0)] ++ [semS]) := by
 rw [take_snoc h 0, flagsW_app]; rfl
theorem partsW_take {l : List S103} {k : Nat} (h : k < l.length) : partsW (l.take (k + 1)) = partsW (l.take k) ++ (partW (l.getD k z103) ++ [semS]) := by
 rw [take_snoc h z103, partsW_app, partsW, partsW, List.append_nil]
theorem wFs_take {l : List FF} {k : Nat} (h : k < l.length) : wFs (l.take (k + 1)) = wFs (l.take k) ++ wF (l.getD k zFF) := by
 rw [take_snoc h zFF, wFs_app, wFs, wFs, List.append_nil]
theorem flagsW_le {l : List Int} {k : Nat} (h : k < l.length) : (flagsW (l.take k)).length + 2 ≤ (flagsW l).length := by
 have h1 := congrArg List.length (flagsW_app (l.take (k + 1)) (l.drop (k + 1)))
 rw [List.take_append_drop, List.length_append, flagsW_take h, List.length_append] at h1
 simp only [List.length_append, List.length_cons, List.length_nil] at h1
 omega
theorem partsW_le {l : List S103} {k : Nat} (h : k < l.length) : (partsW (l.take k)).length + ((partW (l.getD k z103)).length + 1) ≤ (partsW l).length := by
 have h1 := congrArg List.length (partsW_app (l.take (k + 1)) (l.drop (k + 1)))
 rw [List.take_append_drop, List.length_append, partsW_take h, List.length_append] at h1
 simp only [List.length_append, List.length_cons, List.length_nil] at h1
 omega
theorem wFs_le {l : List FF} {k : Nat} (h : k < l.length) : (wFs (l.take k)).length + (wF (l.getD k zFF)).length ≤ (wFs l).length := by
 have h1 := congrArg List.length (wFs_app (l.take (k + 1)) (l.drop (k + 1)))
 rw [List.take_append_drop, List.length_append, wFs_take h, List.length_append] at h1
 omega
structure FnSh (f : FF) : Prop where
 cells : In64 f.cells
 flags : ∀ n ∈ f.flags, In64 n
 parts : ∀ p ∈ f.parts, In64 p.f0 ∧ In64 p.f1
 body : FsSh f.body
section
variable {w0 w : World} {gp : Nat} {v : Value} {ws : List ByteArray}
theorem idx_two0 (a b : Int) (W : World) : (Instr.index 153 (.agg #[.int .i64 a, .int .i64 b]) (.int .i64 0)).run Tryz.prog W = .ok (.int .i64 a) W := by kernel_rfl
theorem idx_two1 (a b : Int) (W : World) : (Instr.index 153 (.agg #[.int .i64 a, .int .i64 b]) (.int .i64 1)).run Tryz.prog W = .ok (.int .i64 b) W := by kernel_rfl
theorem fn1_eg : ∀ args w, (callFunc 97 args).run Tryz.prog w = .ok (.enter 97 args) w := enters_of Tryz.func97 (by kernel_rfl) rfl
set_option maxHeartbeats 4000000 in
theorem fn1_calls (hL : LaidR w0) (h : PrAt 111 w0 w gp v ws) (p : S103) (hp : In64 p.f0 ∧ In64 p.f1) (b2 b3 : Nat) (B2 : w.heap[b2]? = some (.cells #[.pointer (some ⟨gp, 0, none⟩)] 109 (0, 0))) (B3 : w.heap[b3]? = some (.cells #[.int .i64 p.f0, .int .i64 p.f1] 103 (0, 0))) (i : Nat) (hi : i < 2) (hl : ws.length + 1 ≤ 8796093022208) :
  Calls Tryz.prog 97 #[.int .i64 (i : Int), .pointer (some ⟨b2, 0, none⟩), .pointer (some ⟨b3, 0, none⟩)] w (PrPost 111 w0 gp v ws [itoaB (partI p i)] w) := by
 have d2 := (blk_cell B2 0).trans rfl
 have d3 := (blk_cell B3 0).trans rfl
 have d4 := (blk_cell B3 1).trans rfl
 have HP := Aside0.mk (h.below' (below_drew1 (Below.refl _ _)))
 have HL := Aside0.mk hL
 have HI := Aside0.mk hp
 clear h hL B2 B3 hp
 have hi0 := idx_two0 p.f0 p.f1
 have hi1 := idx_two1 p.f0 p.f1
 match i, hi with
 | 0, _ =>
  go_enter Tryz.func97, Tryz.ntmps97
  go_wp2_with fail
  go_still_tail 8, (by kernel_rfl)
  change wpList _ _ _ _ _ (World.drew w)
  go_wp2_with fail
  refine (enumber_calls HP.out HL.out p.f0 HI.out.1.1 HI.out.1.2 hl).mono ?_
  intro e w9 hp
  obtain ⟨rfl, v9, h9, k9, o9⟩ := hp
  have HR := Aside0.mk (show PrPost 111 w0 gp v ws [itoaB (partI p 0)] w (.returned (.tuple #[])) w9 from ⟨rfl, v9, h9, k9, o9⟩)
  clear h9 k9 o9
  go_wp2_with fail
  go_end0
  exact HR.out
 | 1, _ =>
  go_enter Tryz.func97, Tryz.ntmps97
  go_wp2_with fail
  go_still_tail 8, (by kernel_rfl)
  change wpList _ _ _ _ _ (World.drew w)
  go_wp2_with fail
  refine (enumber_calls HP.out HL.out p.f1 HI.out.2.1 HI.out.2.2 hl).mono ?_
  intro e w9 hp
  obtain ⟨rfl, v9, h9, k9, o9⟩ := hp
  have HR := Aside0.mk (show PrPost 111 w0 gp v ws [itoaB (partI p 1)] w (.returned (.tuple #[])) w9 from ⟨rfl, v9, h9, k9, o9⟩)
  clear h9 k9 o9
  go_wp2_with fail
  go_end0
  exact HR.out
set_option maxHeartbeats 8000000 in
theorem wfunction_calls (hL : LaidR w0) (x : FF) (hx : FnSh x) (cs : List Value) (h : PrAt 111 w0 w gp v ws) (hK : kFF.K w0 x cs) (hl : ws.length + (wF x).length ≤ 8796093022208) :
  Calls Tryz.prog 61 #[.pointer (some ⟨gp, 0, none⟩), .agg cs.toArray] w (PrPost 111 w0 gp v ws (wF x) w) := by
 obtain ⟨xA0, xc0, xA1, xc1, xA3, xc3, xA4, xc4, xA5, xc5, rfl, xl0, xg0, xl1, xg1, xl3, xg3, xl4, xg4, xl5, xg5⟩ := kFF_open6 hK
 have HL := Aside0.mk hL
 have HX := Aside0.mk hx
 have HLN := Aside0.mk (show ws.length + ([funS] ++ namesW x.params ++ [eqS] ++ namesW x.results ++ [cellsS] ++ [itoaB x.cells] ++ [flagsS, braS] ++ flagsW x.flags ++ [ketS, partsS, braS] ++ partsW x.parts ++ [ketS] ++ wL x.body).length ≤ 8796093022208 from hl)
 have G0 := Aside0.mk xg0; have G1 := Aside0.mk xg1; have G3 := Aside0.mk xg3; have G4 := Aside0.mk xg4; have G5 := Aside0.mk xg5
 have hs := st2 w (.cells #[.pointer (some ⟨gp, 0, none⟩)] 109) (.cells #[.slice xA0 (x.params).length xc0, .slice xA1 (x.results).length xc1, .int .i64 x.cells, .slice xA3 (x.flags).length xc3, .slice xA4 (x.parts).length xc4, .slice xA5 (x.body).length xc5] 35)
 have NG := Aside0.mk (show w.heap.size ≠ gp ∧ w.heap.size + 1 ≠ gp from by have := h.lt; omega)
 have HS0 := Aside0.mk (PrSt.start h)
 clear hl hK hL hx xl0 xg0 xl1 xg1 xl3 xg3 xl4 xg4 xl5 xg5 h
 go_enter Tryz.func61, Tryz.ntmps61
 go_upto_region 1 with fail
 generalize (w.alloc (.cells #[.pointer (some ⟨gp, 0, none⟩)] 109)).alloc (.cells #[.slice xA0 (x.params).length xc0, .slice xA1 (x.results).length xc1, .int .i64 x.cells, .slice xA3 (x.flags).length xc3, .slice xA4 (x.parts).length xc4, .slice xA5 (x.body).length xc5] 35) = w1 at hs ⊢
 obtain ⟨b2, b3, hb⟩ := hs
 have HS := Aside0.mk (HS0.out.below hb)
 clear hb HS0
 generalize w.heap.size + 1 = g3 at b3 NG ⊢
 obtain ⟨g2, hq⟩ : ∃ g2, w.heap.size = g2 := ⟨_, rfl⟩
 rw [hq] at b2 NG ⊢
 clear hq
 have B2 := Aside0.mk b2; have BE := Aside0.mk b3
 clear b2 b3
 have d2 := (blk_cell B2.out 0).trans rfl
 have ce_0 := (blk_cell BE.out 0).trans rfl
 have ce_1 := (blk_cell BE.out 1).trans rfl
 have ce_2 := (blk_cell BE.out 2).trans rfl
 have ce_3 := (blk_cell BE.out 3).trans rfl
 have ce_4 := (blk_cell BE.out 4).trans rfl
 have ce_5 := (blk_cell BE.out 5).trans rfl
 have hfm : x.flags.length ≤ 9223372036854775807 := G3.out.2.1
 have hpm : x.parts.length ≤ 9223372036854775807 := G4.out.2.1
 go_wp2_with fail
 refine (eput_lits HS.out.at_ [funS] (by simp) (by have := HLN.out; simp only [List.length_append, List.length_cons, List.length_nil] at this ⊢; omega) _ rfl 1 rfl).mono ?_
 intro e w11 hp
 obtain ⟨rfl, v11, hst, hk⟩ := HS.out.then hp
 replace B2 := Aside0.mk (HS.out.at_.apart B2.out NG.out.1 (by decide) hk)
 replace BE := Aside0.mk (HS.out.at_.apart BE.out NG.out.2 (by decide) hk)
 replace HS := Aside0.mk hst
 clear hp hst hk d2 ce_0 ce_1 ce_2 ce_3 ce_4 ce_5
 have d2 := (blk_cell B2.out 0).trans rfl
 have ce_0 := (blk_cell BE.out 0).trans rfl
 have ce_1 := (blk_cell BE.out 1).trans rfl
 have ce_2 := (blk_cell BE.out 2).trans rfl
 have ce_3 := (blk_cell BE.out 3).trans rfl
 have ce_4 := (blk_cell BE.out 4).trans rfl
 have ce_5 := (blk_cell BE.out 5).trans rfl
 go_wp2_with fail
 refine (names_calls HS.out.at_ x.params xA0 xc0 G0.out (by have := HLN.out; simp only [List.length_append, List.length_cons, List.length_nil] at this ⊢; omega)).mono ?_
 intro e w12 hp
 obtain ⟨rfl, v12, hst, hk⟩ := HS.out.then hp
 replace B2 := Aside0.mk (HS.out.at_.apart B2.out NG.out.1 (by decide) hk)
 replace BE := Aside0.mk (HS.out.at_.apart BE.out NG.out.2 (by decide) hk)
 replace HS := Aside0.mk hst
 clear hp hst hk d2 ce_0 ce_1 ce_2 ce_3 ce_4 ce_5
 have d2 := (blk_cell B2.out 0).trans rfl
 have ce_0 := (blk_cell BE.out 0).trans rfl
 have ce_1 := (blk_cell BE.out 1).trans rfl
 have ce_2 := (blk_cell BE.out 2).trans rfl
 have ce_3 := (blk_cell BE.out 3).trans rfl
 have ce_4 := (blk_cell BE.out 4).trans rfl
 have ce_5 := (blk_cell BE.out 5).trans rfl
 go_wp2_with fail
 refine (eput_lits HS.out.at_ [eqS] (by simp) (by have := HLN.out; simp only [List.length_append, List.length_cons, List.length_nil] at this ⊢; omega) _ rfl 1 rfl).mono ?_
 intro e w13 hp
 obtain ⟨rfl, v13, hst, hk⟩ := HS.out.then hp
 replace B2 := Aside0.mk (HS.out.at_.apart B2.out NG.out.1 (by decide) hk)
 replace BE := Aside0.mk (HS.out.at_.apart BE.out NG.out.2 (by decide) hk)
 replace HS := Aside0.mk hst
 clear hp hst hk d2 ce_0 ce_1 ce_2 ce_3 ce_4 ce_5
 have d2 := (blk_cell B2.out 0).trans rfl
 have ce_0 := (blk_cell BE.out 0).trans rfl
 have ce_1 := (blk_cell BE.out 1).trans rfl
 have ce_2 := (blk_cell BE.out 2).trans rfl
 have ce_3 := (blk_cell BE.out 3).trans rfl
 have ce_4 := (blk_cell BE.out 4).trans rfl
 have ce_5 := (blk_cell BE.out 5).trans rfl
 go_wp2_with fail
 refine (names_calls HS.out.at_ x.results xA1 xc1 G1.out (by have := HLN.out; simp only [List.length_append, List.length_cons, List.length_nil] at this ⊢; omega)).mono ?_
 intro e w14 hp
 obtain ⟨rfl, v14, hst, hk⟩ := HS.out.then hp
 replace B2 := Aside0.mk (HS.out.at_.apart B2.out NG.out.1 (by decide) hk)
 replace BE := Aside0.mk (HS.out.at_.apart BE.out NG.out.2 (by decide) hk)
 replace HS := Aside0.mk hst
 clear hp hst hk d2 ce_0 ce_1 ce_2 ce_3 ce_4 ce_5
 have d2 := (blk_cell B2.out 0).trans rfl
 have ce_0 := (blk_cell BE.out 0).trans rfl
 have ce_1 := (blk_cell BE.out 1).trans rfl
 have ce_2 := (blk_cell BE.out 2).trans rfl
 have ce_3 := (blk_cell BE.out 3).trans rfl
 have ce_4 := (blk_cell BE.out 4).trans rfl
 have ce_5 := (blk_cell BE.out 5).trans rfl
 go_wp2_with fail
 refine (eput_lits HS.out.at_ [cellsS] (by simp) (by have := HLN.out; simp only [List.length_append, List.length_cons, List.length_nil] at this ⊢; omega) _ rfl 1 rfl).mono ?_
 intro e w15 hp
 obtain ⟨rfl, v15, hst, hk⟩ := HS.out.then hp
 replace B2 := Aside0.mk (HS.out.at_.apart B2.out NG.out.1 (by decide) hk)
 replace BE := Aside0.mk (HS.out.at_.apart BE.out NG.out.2 (by decide) hk)
 replace HS := Aside0.mk hst
 clear hp hst hk d2 ce_0 ce_1 ce_2 ce_3 ce_4 ce_5
 have d2 := (blk_cell B2.out 0).trans rfl
 have ce_0 := (blk_cell BE.out 0).trans rfl
 have ce_1 := (blk_cell BE.out 1).trans rfl
 have ce_2 := (blk_cell BE.out 2).trans rfl
 have ce_3 := (blk_cell BE.out 3).trans rfl
 have ce_4 := (blk_cell BE.out 4).trans rfl
 have ce_5 := (blk_cell BE.out 5).trans rfl
 go_wp2_with fail
 refine (enumber_calls HS.out.at_ HL.out x.cells HX.out.cells.1 HX.out.cells.2 (by have := HLN.out; simp only [List.length_append, List.length_cons, List.length_nil] at this ⊢; omega)).mono ?_
 intro e w16 hp
 obtain ⟨rfl, v16, hst, hk⟩ := HS.out.then hp
 replace B2 := Aside0.mk (HS.out.at_.apart B2.out NG.out.1 (by decide) hk)
 replace BE := Aside0.mk (HS.out.at_.apart BE.out NG.out.2 (by decide) hk)
 replace HS := Aside0.mk hst
 clear hp hst hk d2 ce_0 ce_1 ce_2 ce_3 ce_4 ce_5
 have d2 := (blk_cell B2.out 0).trans rfl
 have ce_0 := (blk_cell BE.out 0).trans rfl
 have ce_1 := (blk_cell BE.out 1).trans rfl
 have ce_2 := (blk_cell BE.out 2).trans rfl
 have ce_3 := (blk_cell BE.out 3).trans rfl
 have ce_4 := (blk_cell BE.out 4).trans rfl
 have ce_5 := (blk_cell BE.out 5).trans rfl
 go_wp2_with fail
 refine (eput_lits HS.out.at_ [flagsS, braS] (by simp) (by have := HLN.out; simp only [List.length_append, List.length_cons, List.length_nil] at this ⊢; omega) _ rfl 2 rfl).mono ?_
 intro e w17 hp
 obtain ⟨rfl, v17, hst, hk⟩ := HS.out.then hp
 replace B2 := Aside0.mk (HS.out.at_.apart B2.out NG.out.1 (by decide) hk)
 replace BE := Aside0.mk (HS.out.at_.apart BE.out NG.out.2 (by decide) hk)
 replace HS := Aside0.mk hst
 clear hp hst hk d2 ce_0 ce_1 ce_2 ce_3 ce_4 ce_5
 have d2 := (blk_cell B2.out 0).trans rfl
 have ce_0 := (blk_cell BE.out 0).trans rfl
 have ce_1 := (blk_cell BE.out 1).trans rfl
 have ce_2 := (blk_cell BE.out 2).trans rfl
 have ce_3 := (blk_cell BE.out 3).trans rfl
 have ce_4 := (blk_cell BE.out 4).trans rfl
 have ce_5 := (blk_cell BE.out 5).trans rfl
 go_wp2_with fail
 clear d2 ce_0 ce_1 ce_2 ce_3 ce_4 ce_5
 go_loopg [35] x.flags.length (fun gg s_ wr => ∃ (kk : Nat) (vc : Value), kk ≤ x.flags.length ∧ x.flags.length - kk ≤ gg ∧ s_ = .int .i64 (kk : Int) ∧ Aside0 (PrSt 111 w0 gp v ws w ([] ++ [funS] ++ namesW x.params ++ [eqS] ++ namesW x.results ++ [cellsS] ++ [itoaB x.cells] ++ [flagsS, braS] ++ flagsW (x.flags.take kk)) wr vc) ∧ Aside0 (wr.heap[g2]? = some (.cells #[.pointer (some ⟨gp, 0, none⟩)] 109 (0, 0))) ∧ Aside0 (wr.heap[g3]? = some (.cells #[.slice xA0 (x.params).length xc0, .slice xA1 (x.results).length xc1, .int .i64 x.cells, .slice xA3 (x.flags).length xc3, .slice xA4 (x.parts).length xc4, .slice xA5 (x.body).length xc5] 35 (0, 0))))
 case atStart => exact ⟨0, _, Nat.zero_le _, by omega, rfl, ⟨by rw [List.take_zero, flagsW, List.append_nil]; exact HS.out⟩, B2, BE⟩
 case round =>
  clear HS B2 BE
  obtain ⟨kk, vc, hkk, hgk, rfl, HS, B2, BE⟩ := hrel
  have d2 := (blk_cell B2.out 0).trans rfl
  have ce_3 := (blk_cell BE.out 3).trans rfl
  by_cases hlt : kk < x.flags.length
  ·have hltz : (kk : Int) < (x.flags.length : Int) := by omega
   have HM := Aside0.mk (HX.out.flags _ (getDm hlt (0 : Int)))
   have HUN := Aside0.mk (flagsW_le hlt)
   have HTK := Aside0.mk (flagsW_take hlt)
   obtain ⟨nad, ncs, hne, _, nK, ncc⟩ := Kd.C_get G3.out (0 : Int) (kk : Int) (by omega) (by omega)
   subst hne
   obtain rfl := nK
   have nx0 := (HS.out.at_.below.cell (World.block_lt_of_cell? w0 _ (ncc 0 _ rfl))).trans (ncc 0 _ rfl)
   simp only [show (Kd.int .i64).sz = 1 from rfl, Nat.mul_one, Nat.add_zero, Int.toNat_natCast] at nx0
   clear ncc
   generalize x.flags.getD kk (0 : Int) = n at nx0 HM HTK
   go_wp2_with fail
   refine (enumber_calls HS.out.at_ HL.out n HM.out.1 HM.out.2 (by have := HLN.out; have h2 := HUN.out; simp only [List.length_append, List.length_cons, List.length_nil] at this h2 ⊢; omega)).mono ?_
   intro e w18 hp
   obtain ⟨rfl, v18, hst, hk⟩ := HS.out.then hp
   replace B2 := Aside0.mk (HS.out.at_.apart B2.out NG.out.1 (by decide) hk)
   replace BE := Aside0.mk (HS.out.at_.apart BE.out NG.out.2 (by decide) hk)
   replace HS := Aside0.mk hst
   clear hp hst hk d2 ce_3 nx0
   have d2 := (blk_cell B2.out 0).trans rfl
   have ce_3 := (blk_cell BE.out 3).trans rfl
   go_wp2_with fail
   refine (eput_lits HS.out.at_ [semS] (by simp) (by have := HLN.out; have h2 := HUN.out; simp only [List.length_append, List.length_cons, List.length_nil] at this h2 ⊢; omega) _ rfl 1 rfl).mono ?_
   intro e w19 hp
   obtain ⟨rfl, v19, hst, hk⟩ := HS.out.then hp
   replace B2 := Aside0.mk (HS.out.at_.apart B2.out NG.out.1 (by decide) hk)
   replace BE := Aside0.mk (HS.out.at_.apart BE.out NG.out.2 (by decide) hk)
   replace HS := Aside0.mk hst
   clear hp hst hk d2 ce_3
   go_wp2_with fail
   go_roundg (x.flags.length - (kk + 1))
   case measure => omega
   case rel => exact ⟨kk + 1, _, by omega, by omega, by go_num, ⟨by rw [HTK.out, ← List.append_assoc, ← List.append_assoc]; exact HS.out⟩, B2, BE⟩
  ·obtain rfl : kk = x.flags.length := by omega
   have hltz : ¬ ((x.flags.length : Int) < (x.flags.length : Int)) := by omega
   replace HS := Aside0.mk (show PrSt 111 w0 gp v ws w ([] ++ [funS] ++ namesW x.params ++ [eqS] ++ namesW x.results ++ [cellsS] ++ [itoaB x.cells] ++ [flagsS, braS] ++ flagsW x.flags) wr vc from by have := HS.out; rw [List.take_length] at this; exact this)
   clear hkk hgk hlt hfm
   go_wp2_with fail
   refine (eput_lits HS.out.at_ [ketS, partsS, braS] (by simp) (by have := HLN.out; simp only [List.length_append, List.length_cons, List.length_nil] at this ⊢; omega) _ rfl 3 rfl).mono ?_
   intro e w20 hp
   obtain ⟨rfl, v20, hst, hk⟩ := HS.out.then hp
   replace B2 := Aside0.mk (HS.out.at_.apart B2.out NG.out.1 (by decide) hk)
   replace BE := Aside0.mk (HS.out.at_.apart BE.out NG.out.2 (by decide) hk)
   replace HS := Aside0.mk hst
   clear hp hst hk d2 ce_3
   have d2 := (blk_cell B2.out 0).trans rfl
   have ce_4 := (blk_cell BE.out 4).trans rfl
   go_wp2_with fail
   clear d2 ce_4
   have hmf := run_mkfn
   go_loopg [52] x.parts.length (fun gg s_ wr => ∃ (kk : Nat) (vc : Value), kk ≤ x.parts.length ∧ x.parts.length - kk ≤ gg ∧ s_ = .int .i64 (kk : Int) ∧ Aside0 (PrSt 111 w0 gp v ws w ([] ++ [funS] ++ namesW x.params ++ [eqS] ++ namesW x.results ++ [cellsS] ++ [itoaB x.cells] ++ [flagsS, braS] ++ flagsW x.flags ++ [ketS, partsS, braS] ++ partsW (x.parts.take kk)) wr vc) ∧ Aside0 (wr.heap[g2]? = some (.cells #[.pointer (some ⟨gp, 0, none⟩)] 109 (0, 0))) ∧ Aside0 (wr.heap[g3]? = some (.cells #[.slice xA0 (x.params).length xc0, .slice xA1 (x.results).length xc1, .int .i64 x.cells, .slice xA3 (x.flags).length xc3, .slice xA4 (x.parts).length xc4, .slice xA5 (x.body).length xc5] 35 (0, 0))))
   case atStart => exact ⟨0, _, Nat.zero_le _, by omega, rfl, ⟨by rw [List.take_zero, partsW, List.append_nil]; exact HS.out⟩, B2, BE⟩
   case round =>
    clear HS B2 BE
    obtain ⟨kk, vc, hkk, hgk, rfl, HS, B2, BE⟩ := hrel
    have d2 := (blk_cell B2.out 0).trans rfl
    have ce_4 := (blk_cell BE.out 4).trans rfl
    by_cases hlt : kk < x.parts.length
    ·have hltz : (kk : Int) < (x.parts.length : Int) := by omega
     have HM := Aside0.mk (HX.out.parts _ (getDm hlt z103))
     have HUN := Aside0.mk (partsW_le hlt)
     have HTK := Aside0.mk (partsW_take hlt)
     obtain ⟨pad, pcs, hpe, _, pK, pcc⟩ := Kd.C_get G4.out z103 (kk : Int) (by omega) (by omega)
     subst hpe
     have pK' := pK
     obtain rfl := k103_open pK'
     have px0 := (HS.out.at_.below.cell (World.block_lt_of_cell? w0 _ (pcc 0 _ rfl))).trans (pcc 0 _ rfl)
     have px1 := (HS.out.at_.below.cell (World.block_lt_of_cell? w0 _ (pcc 1 _ rfl))).trans (pcc 1 _ rfl)
     rw [show (kPt).sz = 2 from rfl, Nat.add_zero, Int.toNat_natCast] at px0
     rw [show (kPt).sz = 2 from rfl, Int.toNat_natCast, add_field _ _ 1 (by omega)] at px1
     clear pcc
     try simp only [Int.toNat_natCast] at px0 px1 pK
     generalize x.parts.getD kk z103 = q at px0 px1 pK HM HUN HTK
     clear pK
     go_upto_region 18 with ((with_reducible refine gate_store (t := 103) (p := 7) rfl ?_); refine store_whole rfl rfl 103 _ _ rfl wr.heap.size _ 103 rfl (blk_new _ _) _ rfl rfl rfl (by simp [Value.oneCell']) ?_; intro w2 hb2 hg2; have hba := below_as (Below.refl wr.heap.size wr) hg2; have NA := Aside0.mk (show wr.heap.size ≠ gp from by have := HS.out.at_.lt; omega); replace HS := Aside0.mk (HS.out.below hba); replace B2 := Aside0.mk (below_blk B2.out hba); replace BE := Aside0.mk (below_blk BE.out hba); obtain ⟨ga, hq_⟩ : ∃ g_, g_ = wr.heap.size := ⟨_, rfl⟩; rw [← hq_] at hb2 NA; rw [← hq_]; have BA := Aside0.mk hb2; clear hb2 hg2 hq_ hba)
     clear px0 px1 d2 ce_4
     have d2 := (blk_cell B2.out 0).trans rfl
     go_wp2_with fail
     refine (between_calls (w0 := w0) (gp := gp) 97 _ _ fn1_eg 2 (by decide) (fun i => [itoaB (partI q i)]) (fun W => W.heap[g2]? = some (.cells #[.pointer (some ⟨gp, 0, none⟩)] 109 (0, 0)) ∧ W.heap[ga]? = some (.cells #[.int .i64 q.f0, .int .i64 q.f1] 103 (0, 0))) (fun W W' vc wc hp hi hk => ⟨hp.apart hi.1 NG.out.1 (by decide) hk, hp.apart hi.2 NA.out (by decide) hk⟩) (fun W vc wc i hi hp hinv hln => fn1_calls HL.out hp q HM.out g2 ga hinv.1 hinv.2 i hi hln) HS.out.at_ ⟨B2.out, BA.out⟩ (by have := HLN.out; have h2 := HUN.out; unfold partW at h2; simp only [List.length_append, List.length_cons, List.length_nil] at this h2 ⊢; omega)).mono ?_
     intro e w21 hp
     obtain ⟨rfl, v21, hst, hk⟩ := HS.out.then hp
     replace B2 := Aside0.mk (HS.out.at_.apart B2.out NG.out.1 (by decide) hk)
     replace BE := Aside0.mk (HS.out.at_.apart BE.out NG.out.2 (by decide) hk)
     replace HS := Aside0.mk hst
     clear hp hst hk d2
     have d2 := (blk_cell B2.out 0).trans rfl
     go_wp2_with fail
     refine (eput_lits HS.out.at_ [semS] (by simp) (by have := HLN.out; have h2 := HUN.out; unfold partW at h2; simp only [List.length_append, List.length_cons, List.length_nil] at this h2 ⊢; omega) _ rfl 1 rfl).mono ?_
     intro e w22 hp
     obtain ⟨rfl, v22, hst, hk⟩ := HS.out.then hp
     replace B2 := Aside0.mk (HS.out.at_.apart B2.out NG.out.1 (by decide) hk)
     replace BE := Aside0.mk (HS.out.at_.apart BE.out NG.out.2 (by decide) hk)
     replace HS := Aside0.mk hst
     clear hp hst hk d2
     go_wp2_with fail
     go_roundg (x.parts.length - (kk + 1))
     case measure => omega
     case rel => exact ⟨kk + 1, _, by omega, by omega, by go_num, ⟨by rw [HTK.out, ← List.append_assoc, ← List.append_assoc]; exact HS.out⟩, B2, BE⟩
    ·obtain rfl : kk = x.parts.length := by omega
     have hltz : ¬ ((x.parts.length : Int) < (x.parts.length : Int)) := by omega
     replace HS := Aside0.mk (show PrSt 111 w0 gp v ws w ([] ++ [funS] ++ namesW x.params ++ [eqS] ++ namesW x.results ++ [cellsS] ++ [itoaB x.cells] ++ [flagsS, braS] ++ flagsW x.flags ++ [ketS, partsS, braS] ++ partsW x.parts) wr vc from by have := HS.out; rw [List.take_length] at this; exact this)
     clear hkk hgk hlt hpm hmf
     go_wp2_with fail
     refine (eput_lits HS.out.at_ [ketS] (by simp) (by have := HLN.out; simp only [List.length_append, List.length_cons, List.length_nil] at this ⊢; omega) _ rfl 1 rfl).mono ?_
     intro e w23 hp
     obtain ⟨rfl, v23, hst, hk⟩ := HS.out.then hp
     replace B2 := Aside0.mk (HS.out.at_.apart B2.out NG.out.1 (by decide) hk)
     replace BE := Aside0.mk (HS.out.at_.apart BE.out NG.out.2 (by decide) hk)
     replace HS := Aside0.mk hst
     clear hp hst hk d2 ce_4
     have d2 := (blk_cell B2.out 0).trans rfl
     have ce_5 := (blk_cell BE.out 5).trans rfl
     go_wp2_with fail
     refine (wblock_calls HL.out HX.out.body _ _ _ xA5 xc5 HS.out.at_ G5.out (by have := HLN.out; simp only [List.length_append, List.length_cons, List.length_nil] at this ⊢; omega)).mono ?_
     intro e w24 hp
     obtain ⟨rfl, v24, hst, hk⟩ := HS.out.then hp
     replace B2 := Aside0.mk (HS.out.at_.apart B2.out NG.out.1 (by decide) hk)
     replace BE := Aside0.mk (HS.out.at_.apart BE.out NG.out.2 (by decide) hk)
     replace HS := Aside0.mk hst
     clear hp hst hk d2 ce_5
     go_wp2_with fail
     go_end0
     exact HS.out.done rfl
def textB (l : List FF) : ByteArray := ⟨(Lib.join ((wFs l).map (·.data.toList)) [32]).toArray⟩
end
set_option maxHeartbeats 8000000 in
theorem text_calls {w : World} (hL : LaidR w) (l : List FF) (hx : ∀ f ∈ l, FnSh f) (A : Option Addr) (c : Nat) (hC : kFF.C w A l.length l) (hl : (wFs l).length ≤ 8796093022208) (hj : (Lib.join ((wFs l).map (·.data.toList)) [32]).length ≤ 140737488355328) :
  Calls Tryz.prog 39 #[.agg #[.slice A l.length c]] w fun e w' => e = .returned (.string (textB l)) ∧ Below w.heap.size w w' := by
 have hba := below_alloc (Below.refl w.heap.size w) (.cells #[.slice A l.length c] 24)
 have BX := Aside0.mk (blk_new w (.cells #[.slice A l.length c] 24))
 have HB := Aside0.mk hba
 have HL := Aside0.mk (hL.below hba)
 have HC := Aside0.mk (Kd.C_below hC hba)
 have HX := Aside0.mk hx
 have HLN := Aside0.mk hl
 have HJ := Aside0.mk hj
 have hmax : l.length ≤ 9223372036854775807 := hC.2.1
 clear hL hC hx hl hj hba
 go_enter Tryz.func39, Tryz.ntmps39
 go_upto_region 1 with fail
 generalize w.alloc (.cells #[.slice A l.length c] 24) = w1 at HB HL HC BX ⊢
 obtain ⟨g1, hq⟩ : ∃ g1, w.heap.size = g1 := ⟨_, rfl⟩
 rw [hq] at BX ⊢
 have HQ := Aside0.mk hq
 clear hq
 go_upto_region 2 with fail
 have hb2 := below_alloc (Below.refl w1.heap.size w1) (.cells #[.slice none 0 0] 111)
 have HP := Aside0.mk (show PrAt 111 w1 (w1.alloc (.cells #[.slice none 0 0] 111)) w1.heap.size (.slice none 0 0) [] from ⟨blk_new _ _, Kd.R_nil _ _ _ _ _, Nat.le_refl _, hb2⟩)
 replace BX := Aside0.mk (below_blk BX.out hb2)
 generalize w1.alloc (.cells #[.slice none 0 0] 111) = w2 at HP BX ⊢
 obtain ⟨gp, hgp⟩ : ∃ gp, w1.heap.size = gp := ⟨_, rfl⟩
 rw [hgp] at HP ⊢
 clear hgp hb2
 have HS := Aside0.mk (PrSt.start HP.out)
 clear HP
 have bx0 := (blk_cell BX.out 0).trans rfl
 go_wp2_with fail
 clear bx0 BX
 go_loopg [11] l.length (fun gg s_ wr => ∃ (kk : Nat) (vc : Value), kk ≤ l.length ∧ l.length - kk ≤ gg ∧ s_ = .int .i64 (kk : Int) ∧ Aside0 (PrSt 111 w1 gp (.slice none 0 0) [] w2 (wFs (l.take kk)) wr vc))
 case atStart => exact ⟨0, _, Nat.zero_le _, by omega, rfl, HS⟩
 case round =>
  clear HS
  obtain ⟨kk, vc, hkk, hgk, rfl, HS⟩ := hrel
  by_cases hlt : kk < l.length
  ·have hltz : (kk : Int) < (l.length : Int) := by omega
   have HM := Aside0.mk (HX.out _ (getDm hlt zFF))
   have HUN := Aside0.mk (wFs_le hlt)
   have HTK := Aside0.mk (wFs_take hlt)
   obtain ⟨xad, xcs, hxe, _, xK, xcc⟩ := Kd.C_get HC.out zFF (kk : Int) (by omega) (by omega)
   subst hxe
   have xK' := xK
   obtain ⟨xA0, xc0, xA1, xc1, xA3, xc3, xA4, xc4, xA5, xc5, rfl, xl0, xg0, xl1, xg1, xl3, xg3, xl4, xg4, xl5, xg5⟩ := kFF_open6 xK'
   have xx0 := (HS.out.at_.below.cell (World.block_lt_of_cell? w1 _ (xcc 0 _ rfl))).trans (xcc 0 _ rfl)
   have xx1 := (HS.out.at_.below.cell (World.block_lt_of_cell? w1 _ (xcc 1 _ rfl))).trans (xcc 1 _ rfl)
   have xx2 := (HS.out.at_.below.cell (World.block_lt_of_cell? w1 _ (xcc 2 _ rfl))).trans (xcc 2 _ rfl)
   have xx3 := (HS.out.at_.below.cell (World.block_lt_of_cell? w1 _ (xcc 3 _ rfl))).trans (xcc 3 _ rfl)
   have xx4 := (HS.out.at_.below.cell (World.block_lt_of_cell? w1 _ (xcc 4 _ rfl))).trans (xcc 4 _ rfl)
   have xx5 := (HS.out.at_.below.cell (World.block_lt_of_cell? w1 _ (xcc 5 _ rfl))).trans (xcc 5 _ rfl)
   rw [show (kFF).sz = 6 from rfl, Nat.add_zero, Int.toNat_natCast] at xx0
   rw [show (kFF).sz = 6 from rfl, Int.toNat_natCast, add_field _ _ 1 (by omega)] at xx1
   rw [show (kFF).sz = 6 from rfl, Int.toNat_natCast, add_field _ _ 2 (by omega)] at xx2
   rw [show (kFF).sz = 6 from rfl, Int.toNat_natCast, add_field _ _ 3 (by omega)] at xx3
   rw [show (kFF).sz = 6 from rfl, Int.toNat_natCast, add_field _ _ 4 (by omega)] at xx4
   rw [show (kFF).sz = 6 from rfl, Int.toNat_natCast, add_field _ _ 5 (by omega)] at xx5
   clear xcc xl0 xg0 xl1 xg1 xl3 xg3 xl4 xg4 xl5 xg5
   try simp only [Int.toNat_natCast] at xx0 xx1 xx2 xx3 xx4 xx5 xK
   generalize l.getD kk zFF = x at xx0 xx1 xx2 xx3 xx4 xx5 xK HM HUN HTK
   have XK := Aside0.mk xK
   clear xK
   go_upto_region 5 with ((with_reducible refine gate_store (t := 35) (p := 5) rfl ?_); refine store_whole rfl rfl 35 _ _ rfl wr.heap.size _ 35 rfl (blk_new _ _) _ rfl rfl rfl (by simp [Value.oneCell']) ?_; intro w3 hb2 hg2; have hba := below_as (Below.refl wr.heap.size wr) hg2; replace HS := Aside0.mk (HS.out.below hba); obtain ⟨ge, hq_⟩ : ∃ g_, g_ = wr.heap.size := ⟨_, rfl⟩; rw [← hq_] at hb2; rw [← hq_]; have BE := Aside0.mk hb2; clear hb2 hg2 hq_ hba)
   clear xx0 xx1 xx2 xx3 xx4 xx5
   have ce_0 := (blk_cell BE.out 0).trans rfl
   have ce_1 := (blk_cell BE.out 1).trans rfl
   have ce_2 := (blk_cell BE.out 2).trans rfl
   have ce_3 := (blk_cell BE.out 3).trans rfl
   have ce_4 := (blk_cell BE.out 4).trans rfl
   have ce_5 := (blk_cell BE.out 5).trans rfl
   go_wp2_with fail
   refine (wfunction_calls HL.out x HM.out _ HS.out.at_ XK.out (by have := HLN.out; have h2 := HUN.out; simp only [List.length_append, List.length_nil] at this h2 ⊢; omega)).mono ?_
   intro e w9 hp
   obtain ⟨rfl, v9, hst, _⟩ := HS.out.then hp
   replace HS := Aside0.mk hst
   clear hp hst ce_0 ce_1 ce_2 ce_3 ce_4 ce_5
   go_wp2_with fail
   go_roundg (l.length - (kk + 1))
   case measure => omega
   case rel => exact ⟨kk + 1, _, by omega, by omega, by go_num, ⟨by rw [HTK.out]; exact HS.out⟩⟩
  ·obtain rfl : kk = l.length := by omega
   have hltz : ¬ ((l.length : Int) < (l.length : Int)) := by omega
   have hat := HS.out.at_
   rw [List.take_length, List.nil_append] at hat
   have HR := Aside0.mk (row_join hat.row HJ.out (by have := HLN.out; omega))
   have HBE := Aside0.mk (HB.out.trans (hat.below.mono HB.out.size))
   have hblk := hat.blk
   clear hat HS
   have d0 := (blk_cell hblk 0).trans rfl
   clear hblk
   go_wp2_with fail
   refine HR.out.mono ?_
   rintro e w4 ⟨rfl, hb4⟩
   have HB4 := Aside0.mk (below_step HBE.out hb4)
   clear hb4 HR d0
   go_wp2_with fail
   go_ret
   exact ⟨rfl, HB4.out⟩
end Go.Proofs.YticndoihkfbpoaaGreatDoor
