/- The law's lives: a sum; RereadOnly. -/
import Derived.Test.YticndoihkfbpoaaGreatDoorOj
import Derived.Test.YticndoihkfbpoaaGreatDoorVl
namespace Go.Proofs.YticndoihkfbpoaaGreatDoor
open Go Go.RowKit Go.Lib Go.Proofs.YticndoihkfbpoaaGreatDoorW.PrintWords Go.Proofs.YticndoihkfbpoaaGreatDoor.PScope
set_option maxRecDepth 100000
set_option linter.unusedSimpArgs false
set_option linter.unusedVariables false
attribute [local irreducible] wpStill
set_option maxHeartbeats 2000000 in
theorem names_same (xs : List ByteArray) (A B : Option Addr) (cA cB : Nat) (w : World) (hA : Kd.string.C w A xs.length xs) (hB : Kd.string.C w B xs.length xs) :
  Calls Tryz.prog 36 #[.slice A xs.length cA, .slice B xs.length cB] w fun e w' => e = .returned (.bool true) ∧ Below w.heap.size w w' := by
 have HA := Aside0.mk hA
 have HBB := Aside0.mk hB
 have hm : xs.length ≤ 9223372036854775807 := hA.2.1
 clear hA hB
 have dl : ((xs.length : Int) != (xs.length : Int)) = false := by simp
 go_enter Tryz.func36, Tryz.ntmps36
 go_wp2_with fail
 go_loopg [5] xs.length (fun gg s5 wr => ∃ kk : Nat, kk ≤ xs.length ∧ xs.length - kk ≤ gg ∧ s5 = .int .i64 kk ∧ Aside0 (Below w.heap.size w wr))
 case atStart => exact ⟨0, Nat.zero_le _, by omega, rfl, ⟨Below.refl _ _⟩⟩
 case round =>
  obtain ⟨kk, hkk, hgk, rfl, HB⟩ := hrel
  by_cases hlt : kk < xs.length
  ·have hltz : (kk : Int) < (xs.length : Int) := by omega
   obtain ⟨a, acs, rfl, _, aK, acc⟩ := Kd.C_get HA.out (⟨#[]⟩ : ByteArray) (kk : Int) (by omega) (by omega)
   obtain ⟨b, bcs, rfl, _, bK, bcc⟩ := Kd.C_get HBB.out (⟨#[]⟩ : ByteArray) (kk : Int) (by omega) (by omega)
   obtain rfl := aK
   obtain rfl := bK
   have x0 := (HB.out.cell (World.block_lt_of_cell? w _ (acc 0 _ rfl))).trans (acc 0 _ rfl)
   have y0 := (HB.out.cell (World.block_lt_of_cell? w _ (bcc 0 _ rfl))).trans (bcc 0 _ rfl)
   simp only [show Kd.string.sz = 1 from rfl, Nat.mul_one, Nat.add_zero, Int.toNat_natCast] at x0 y0
   clear acc bcc
   generalize xs.getD kk (⟨#[]⟩ : ByteArray) = n at x0 y0
   have dn : (n.toList != n.toList) = false := by simp
   have HB2 := Aside0.mk (pw_below_drewN HB.out)
   go_wp2_with fail
   go_quiet (fail)
   go_wp2_with fail
   go_roundg (xs.length - (kk + 1))
   case measure => omega
   case rel => exact ⟨kk + 1, by omega, by omega, by go_num, ⟨HB2.out _⟩⟩
  ·have hltz : ¬ (kk : Int) < (xs.length : Int) := by omega
   obtain rfl : kk = xs.length := by omega
   go_wp2_with fail
   go_ret
   exact ⟨rfl, HB.out⟩
def badT : ByteArray := ⟨#[102, 117, 110, 32, 40, 32, 41, 32, 61, 32, 40, 32, 41, 32, 99, 101, 108, 108, 115, 32, 49]⟩
theorem parse_bad : parseP badT = .error (3, 9) := by kernel_rfl
theorem sum_text : textB sumL = sumS := by kernel_rfl
theorem sum_b4 : (sumL.getD 0 zFF).body.length = 4 := by kernel_rfl
theorem sum_op2 : ((sumL.getD 0 zFF).body.getD 2 zFS).op = 2 := by kernel_rfl
theorem eq_flt0 (W : World) : (binOp .eql 61 (.agg #[.int .i64 0, .int .i64 0, .int .i64 0]) (.agg #[.int .i64 0, .int .i64 0, .int .i64 0])).run Tryz.prog W = .ok (.bool true) W := by kernel_rfl
theorem eq_flt9 (W : World) : (binOp .eql 61 (.agg #[.int .i64 3, .int .i64 9, .int .i64 0]) (.agg #[.int .i64 3, .int .i64 9, .int .i64 0])).run Tryz.prog W = .ok (.bool true) W := by kernel_rfl
theorem text_sum_calls (w : World) (hL : LaidR w) (A : Option Addr) (c : Nat) (hC : kFF.C w A sumL.length sumL) : Calls Tryz.prog 39 #[.agg #[.slice A sumL.length c]] w fun e w' => e = .returned (.string sumS) ∧ Below w.heap.size w w' := by
 obtain ⟨_, hp, h1, h2, _⟩ := text_words parse_sum
 have := text_calls hL sumL hp A c hC (by omega) (by omega)
 rw [sum_text] at this
 exact this
theorem parse_bad_calls (s : ByteArray) (hs : s = badT) (w : World) (hL : LaidR w) : Calls Tryz.prog 33 #[.string s] w fun e w' => e = .returned (.tuple #[.agg #[.slice none 0 0], .agg #[.int .i64 3, .int .i64 9, .int .i64 0]]) ∧ Below w.heap.size w w' := by
 subst hs
 refine (parse_calls badT w (by decide) hL).mono ?_
 intro e w' h
 unfold ParsePost at h
 rw [parse_bad] at h
 obtain ⟨v, er, a, rfl, hb, rfl, rfl, rfl⟩ := h
 exact ⟨rfl, hb⟩
set_option maxHeartbeats 4000000 in
theorem klives_calls (w : World) (hL : LaidR w) : Calls Tryz.prog 32 #[] w fun e w' => e = .returned (.bool true) ∧ Below w.heap.size w w' := by
 have HL := Aside0.mk hL
 clear hL
 go_enter Tryz.func32, Tryz.ntmps32
 go_wp2_with fail
 refine (parse_sum_calls _ (by kernel_rfl) _ HL.out).mono ?_
 rintro e w1 ⟨A, c, rfl, hb, hC⟩
 have HB := Aside0.mk hb
 have HC := Aside0.mk hC
 clear hb hC
 go_wp2_with fail
 have B1 := Aside0.mk (blk_alloc (blk_new w1 (.cells #[.slice A sumL.length c] 24 (0, 0))) (.cells #[.int .i64 0, .int .i64 0, .int .i64 0] 61 (0, 0)))
 have B2 := Aside0.mk (blk_new2b w1 (.cells #[.slice A sumL.length c] 24 (0, 0)) (.cells #[.int .i64 0, .int .i64 0, .int .i64 0] 61 (0, 0)))
 replace HC := Aside0.mk (Kd.C_alloc (Kd.C_alloc HC.out (.cells #[.slice A sumL.length c] 24 (0, 0))) (.cells #[.int .i64 0, .int .i64 0, .int .i64 0] 61 (0, 0)))
 replace HB := Aside0.mk (below_alloc (below_alloc HB.out (.cells #[.slice A sumL.length c] 24 (0, 0))) (.cells #[.int .i64 0, .int .i64 0, .int .i64 0] 61 (0, 0)))
 generalize (w1.alloc (.cells #[.slice A sumL.length c] 24 (0, 0))).alloc (.cells #[.int .i64 0, .int .i64 0, .int .i64 0] 61 (0, 0)) = w2 at B1 B2 HC HB ⊢
 generalize w1.heap.size + 1 = b2 at B2 ⊢
 generalize w1.heap.size = b1 at B1 ⊢
 refine (parse_bad_calls _ (by kernel_rfl) _ (HL.out.below HB.out)).mono ?_
 rintro e w3 ⟨rfl, hb⟩
 replace B1 := Aside0.mk (below_blk B1.out hb); replace B2 := Aside0.mk (below_blk B2.out hb); replace HC := Aside0.mk (Kd.C_below HC.out hb); replace HB := Aside0.mk (below_step HB.out hb)
 clear hb
 go_upto_region 3 with fail
 have B4 := Aside0.mk (blk_new2b w3 (.cells #[.slice none 0 0] 24 (0, 0)) (.cells #[.int .i64 3, .int .i64 9, .int .i64 0] 61 (0, 0)))
 have hba := below_alloc (below_alloc (Below.refl w3.heap.size w3) (.cells #[.slice none 0 0] 24 (0, 0))) (.cells #[.int .i64 3, .int .i64 9, .int .i64 0] 61 (0, 0))
 replace B1 := Aside0.mk (below_blk B1.out hba); replace B2 := Aside0.mk (below_blk B2.out hba); replace HC := Aside0.mk (Kd.C_below HC.out hba); replace HB := Aside0.mk (below_step HB.out hba)
 clear hba
 generalize (w3.alloc (.cells #[.slice none 0 0] 24 (0, 0))).alloc (.cells #[.int .i64 3, .int .i64 9, .int .i64 0] 61 (0, 0)) = w4 at B1 B2 B4 HC HB ⊢
 generalize w3.heap.size + 1 = b4 at B4 ⊢
 generalize w3.heap.size = b3
 have HTX := Aside0.mk (text_sum_calls w4 (HL.out.below HB.out) A c HC.out)
 have hn : sumL.length = 1 := sum_len
 obtain ⟨xad, xcs, hxe, _, xK, xcc⟩ := Kd.C_get HC.out zFF (0 : Int) (by omega) (by omega)
 have xK' := xK
 obtain ⟨xA0, xc0, xA1, xc1, xA3, xc3, xA4, xc4, xA5, xc5, rfl, xl0, xg0, xl1, xg1, xl3, xg3, xl4, xg4, xl5, xg5⟩ := kFF_open6 xK'
 have xx5 := xcc 5 _ rfl
 rw [show (kFF).sz = 6 from rfl] at xx5
 have hb4 : (sumL.getD (0 : Int).toNat zFF).body.length = 4 := sum_b4
 obtain ⟨sad, scs, hse, _, sK, scc⟩ := Kd.C_get xg5 zFS (2 : Int) (by omega) (by omega)
 have sK' := sK
 obtain ⟨sA4, sc4, sA8, sc8, sA9, sc9, sA6, sc6, sA7, sc7, rfl, _⟩ := kFS_openV sK'
 have sx0 := scc 0 _ rfl
 rw [show (kFS).sz = 12 from rfl, show ((sumL.getD (0 : Int).toNat zFF).body.getD (2 : Int).toNat zFS).op = 2 from sum_op2] at sx0
 rw [hb4, hse] at xx5
 subst hxe
 simp only [show (0 : Int).toNat = 0 from rfl, show (2 : Int).toNat = 2 from rfl, Nat.zero_mul, Nat.zero_add, Nat.add_zero, Nat.reduceMul] at xx5 sx0
 have xy5 : w4.cell? ⟨xad.block, xad.off + 5, none⟩ = some (.slice (some sad) 4 xc5) := by
  have h := xx5
  have ha := add_field xad 0 5 (by omega)
  rw [Addr.add_zero'] at ha
  exact (congrArg _ ha).symm.trans h
 have sy0 : w4.cell? ⟨sad.block, sad.off + 24, none⟩ = some (.int .i64 2) := by
  have h := sx0
  have ha := add_field sad 0 24 (by omega)
  rw [Addr.add_zero'] at ha
  exact (congrArg _ ha).symm.trans h
 clear xx5 sx0
 clear xcc scc xK xK' sK sK' xl0 xg0 xl1 xg1 xl3 xg3 xl4 xg4 xl5 xg5 hb4 hse
 rw [hn] at B1 HTX
 have d1 := (blk_cell B1.out 0).trans rfl
 have f0 := (blk_cell B2.out 0).trans rfl
 have f1 := (blk_cell B2.out 1).trans rfl
 have f2 := (blk_cell B2.out 2).trans rfl
 have g0 := (blk_cell B4.out 0).trans rfl
 have g1 := (blk_cell B4.out 1).trans rfl
 have g2 := (blk_cell B4.out 2).trans rfl
 have he0 := eq_flt0
 have he9 := eq_flt9
 go_wp2_with fail
 refine HTX.out.mono ?_
 rintro e w5 ⟨rfl, hb⟩
 replace HB := Aside0.mk (below_step HB.out hb)
 have B5 := below_blk B4.out hb
 have h0 := (blk_cell B5 0).trans rfl
 have h1 := (blk_cell B5 1).trans rfl
 have h2 := (blk_cell B5 2).trans rfl
 clear hb
 go_wp2_with fail
 all_goals try (exact absurd (by kernel_rfl) ‹¬ _ = _›)
 go_ret
 exact ⟨rfl, HB.out⟩
end Go.Proofs.YticndoihkfbpoaaGreatDoor
