/- The law's lives: what is read of a sum's text, and what it costs. -/
import Derived.Lib.SliceRun
import Derived.Test.YticndoihkfbpoaaGreatDoorVg
import Derived.Test.YticndoihkfbpoaaGreatDoorUr
namespace Go.Proofs.YticndoihkfbpoaaGreatDoor
open Go Go.RowKit Go.Lib Go.Proofs.YticndoihkfbpoaaGreatDoorW.PrintWords Go.Proofs.YticndoihkfbpoaaGreatDoor.PScope
set_option maxRecDepth 100000
set_option linter.unusedSimpArgs false
set_option linter.unusedVariables false
def sumS : ByteArray := ⟨#[102, 117, 110, 32, 40, 32, 120, 48, 32, 41, 32, 61, 32, 40, 32, 120, 49, 32, 41, 32, 99, 101, 108, 108, 115, 32, 50, 32, 102, 108, 97, 103, 115, 32, 123, 32, 49, 32, 59, 32, 125, 32, 112, 97, 114, 116, 115, 32, 123, 32, 125, 32, 123, 32, 120, 49, 32, 61, 32, 40, 32, 105, 102, 32, 109, 32, 91, 32, 49, 32, 93, 32, 116, 104, 101, 110, 32, 48, 32, 101, 108, 115, 101, 32, 109, 32, 91, 32, 48, 32, 93, 32, 41, 32, 59, 32, 120, 50, 32, 61, 32, 40, 32, 120, 49, 32, 43, 32, 120, 48, 32, 41, 32, 59, 32, 109, 32, 91, 32, 49, 32, 93, 32, 61, 32, 48, 32, 59, 32, 109, 32, 91, 32, 48, 32, 93, 32, 61, 32, 120, 50, 32, 59, 32, 125]⟩
def sumL : List FF := match parseP sumS with | .ok l => l | .error _ => []
theorem parse_sum : parseP sumS = .ok sumL := by kernel_rfl
theorem sum_len : sumL.length = 1 := by kernel_rfl
theorem blk_new2b (w : World) (o1 o2 : Obj) : ((w.alloc o1).alloc o2).heap[w.heap.size + 1]? = some o2 := by
 have h := blk_new (w.alloc o1) o2
 rw [show (w.alloc o1).heap.size = w.heap.size + 1 from Array.size_push _] at h
 exact h
theorem parse_sum_calls (s : ByteArray) (hs : s = sumS) (w : World) (hL : LaidR w) :
  Calls Tryz.prog 33 #[.string s] w fun e w' => ∃ (A : Option Addr) (c : Nat), e = .returned (.tuple #[.agg #[.slice A sumL.length c], .agg #[.int .i64 0, .int .i64 0, .int .i64 0]]) ∧ Below w.heap.size w w' ∧ kFF.C w' A sumL.length sumL := by
 subst hs
 refine (parse_calls sumS w (by decide) hL).mono ?_
 intro e w' h
 unfold ParsePost at h
 rw [parse_sum] at h
 obtain ⟨v, er, a, rfl, hb, rfl, rfl, hR⟩ := h
 obtain ⟨A, c, rfl, _, hC⟩ := Kd.R_reads hR
 exact ⟨A, c, rfl, hb, hC⟩
end Go.Proofs.YticndoihkfbpoaaGreatDoor
