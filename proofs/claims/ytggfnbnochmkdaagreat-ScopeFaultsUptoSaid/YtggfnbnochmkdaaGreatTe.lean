/- Package tree: lists that are equal; an expression that is none; equations. -/
import Derived.Test.YtggfnbnochmkdaaGreatTd
namespace Go.Proofs.YtggfnbnochmkdaaGreat
open Go Go.RowKit Go.Lib Go.Proofs.YtggfnbnochmkdaaGreatW.PrintWords Go.Proofs.YtggfnbnochmkdaaGreat.PScope
set_option maxRecDepth 100000
set_option linter.unusedSimpArgs false
set_option linter.unusedVariables false
def sameL (xs ys : List ByteArray) : Bool := decide (xs = ys)
theorem sameL_eq (xs ys : List ByteArray) (h : xs.length = ys.length) (hall : ∀ j, j < xs.length → xs.getD j (⟨#[]⟩ : ByteArray) = ys.getD j (⟨#[]⟩ : ByteArray)) : xs = ys := by
 apply List.ext_getElem h
 intro i h1 h2
 have := hall i h1
 rw [List.getD_eq_getElem?_getD, List.getD_eq_getElem?_getD, List.getElem?_eq_getElem h1, List.getElem?_eq_getElem h2] at this
 exact this
set_option maxHeartbeats 2000000 in
theorem sequal_calls (A B : Option Addr) (c d : Nat) (xs ys : List ByteArray) (w : World) (hx : Kd.C Kd.string w A xs.length xs) (hy : Kd.C Kd.string w B ys.length ys) :
   Calls Tryz.prog 102 #[.slice A xs.length c, .slice B ys.length d] w fun e w' => e = .returned (.bool (sameL xs ys)) ∧ Below w.heap.size w w' := by
 by_cases hl : xs.length = ys.length
 · have h1 : ((xs.length : Int) != (ys.length : Int)) = false := by rw [hl]; simp
   have h1' : (xs.length != ys.length) = false := by rw [hl]; simp
   have HL := Aside0.mk hl
   have HX := Aside0.mk hx
   have HY := Aside0.mk hy
   have hmx : xs.length ≤ 9223372036854775807 := hx.2.1
   clear hx hy hl
   go_enter Tryz.func102, Tryz.ntmps102
   go_wp2_with fail
   go_loopg [5, 13] xs.length (fun gg _ s13 wr => ∃ kk : Nat, kk ≤ xs.length ∧ xs.length - kk ≤ gg ∧ s13 = .int .i64 kk ∧ Aside0 (Below w.heap.size w wr) ∧ Aside0 (∀ j, j < kk → xs.getD j (⟨#[]⟩ : ByteArray) = ys.getD j (⟨#[]⟩ : ByteArray)))
   case atStart => exact ⟨0, Nat.zero_le _, by omega, rfl, ⟨Below.refl _ _⟩, ⟨fun j hj => absurd hj (Nat.not_lt_zero _)⟩⟩
   case round =>
     obtain ⟨kk, hkk, hg, rfl, HB, N⟩ := hrel
     by_cases hlt : kk < xs.length
     · have hltz : (kk : Int) < (xs.length : Int) := by omega
       have hlty : kk < ys.length := by have := HL.out; omega
       have hltyz : (kk : Int) < (ys.length : Int) := by omega
       obtain ⟨aad, acs, rfl, _, aK, acc⟩ := Kd.C_get HX.out (⟨#[]⟩ : ByteArray) (kk : Int) (by omega) (by omega)
       obtain rfl := aK
       have ax0 := (HB.out.cell (World.block_lt_of_cell? w _ (acc 0 _ rfl))).trans (acc 0 _ rfl)
       simp only [show Kd.string.sz = 1 from rfl, Nat.mul_one, Nat.add_zero, Int.toNat_natCast] at ax0
       clear acc
       try simp only [Int.toNat_natCast] at ax0
       generalize Yu0 : xs.getD kk (⟨#[]⟩ : ByteArray) = u at ax0
       have Yu := Aside0.mk Yu0; clear Yu0
       obtain ⟨bad, bcs, rfl, _, bK, bcc⟩ := Kd.C_get HY.out (⟨#[]⟩ : ByteArray) (kk : Int) (by omega) (by omega)
       obtain rfl := bK
       have bx0 := (HB.out.cell (World.block_lt_of_cell? w _ (bcc 0 _ rfl))).trans (bcc 0 _ rfl)
       simp only [show Kd.string.sz = 1 from rfl, Nat.mul_one, Nat.add_zero, Int.toNat_natCast] at bx0
       clear bcc
       try simp only [Int.toNat_natCast] at bx0
       generalize Yv0 : ys.getD kk (⟨#[]⟩ : ByteArray) = v at bx0
       have Yv := Aside0.mk Yv0; clear Yv0
       by_cases huv : u = v
       · have e1 : (u.toList == v.toList) = true := by rw [huv]; simp
         have e2 : (u.toList != v.toList) = false := by rw [huv]; simp
         have HUV := Aside0.mk huv
         clear huv
         go_wp2_with fail
         go_quiet (fail)
         go_wp2_with fail
         go_roundg (xs.length - (kk + 1))
         case measure => omega
         case rel =>
           refine ⟨kk + 1, by omega, by omega, by go_num, ⟨by repeat (first | exact HB.out | apply pw_below_drewN | apply below_drew1)⟩, ⟨fun j hj => ?_⟩⟩
           by_cases e : j = kk
           · subst e; rw [Yu.out, Yv.out, HUV.out]
           · exact N.out j (by omega)
       · have e1 : (u.toList == v.toList) = false := beq_eq_false_iff_ne.2 (fun h => huv (toList_inj h))
         have e2 : (u.toList != v.toList) = true := bne_iff_ne.2 (fun h => huv (toList_inj h))
         have hne : sameL xs ys = false := decide_eq_false (fun h => huv (by rw [← Yu.out, ← Yv.out, h]))
         have HNE := Aside0.mk hne
         clear huv hne
         go_wp2_with fail
         go_quiet (fail)
         go_wp2_with fail
         go_ret
         exact ⟨by rw [HNE.out]; rfl, by repeat (first | exact HB.out | apply pw_below_drewN | apply below_drew1)⟩
     · have hltz : ¬ (kk : Int) < (xs.length : Int) := by omega
       obtain rfl : kk = xs.length := by omega
       go_wp2
       go_ret
       have : sameL xs ys = true := decide_eq_true (sameL_eq xs ys HL.out N.out)
       exact ⟨by rw [this]; rfl, HB.out⟩
 · have h1 : ((xs.length : Int) != (ys.length : Int)) = true := by rw [bne_iff_ne]; omega
   have h1' : (xs.length != ys.length) = true := by rw [bne_iff_ne]; omega
   have hne : sameL xs ys = false := decide_eq_false (fun h => hl (by rw [h]))
   have HNE := Aside0.mk hne
   clear hl hne hx hy
   go_enter Tryz.func102, Tryz.ntmps102
   go_wp2_with fail
   go_ret
   exact ⟨by rw [HNE.out]; rfl, Below.refl _ _⟩
end Go.Proofs.YtggfnbnochmkdaaGreat
