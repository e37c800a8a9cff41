/- The signs of package scan: the array, and an index into it. -/
import Derived.Test.YtffeikfffmonkaaDoorBase
namespace Go.Proofs.YtffeikfffmonkaaDoor
open Go Go.RowKit Go.Lib Go.Proofs.YtffeikfffmonkaaDoorW.PrintWords
set_option maxRecDepth 100000
set_option linter.unusedSimpArgs false
set_option linter.unusedVariables false

/-! ### Signs -/
def signList : List ByteArray := [⟨#[45, 62]⟩, ⟨#[60, 61]⟩, ⟨#[60, 62]⟩, ⟨#[40]⟩, ⟨#[41]⟩, ⟨#[91]⟩, ⟨#[93]⟩, ⟨#[60]⟩, ⟨#[61]⟩, ⟨#[44]⟩, ⟨#[59]⟩, ⟨#[58]⟩, ⟨#[124]⟩, ⟨#[43]⟩, ⟨#[45]⟩, ⟨#[42]⟩, ⟨#[47]⟩, ⟨#[37]⟩]
def signVal : Value := .agg (signList.map Value.string).toArray
def signAt (k : Nat) : ByteArray := signList.getD k ⟨#[]⟩

theorem signs_calls (w : World) : Calls Tryd.prog 58 #[] w fun e w' => e = .returned signVal ∧ Below w.heap.size w w' := by
  go_enter Tryd.func58, Tryd.ntmps58
  go_wp2_with fail
  refine bodyPost_ret (v := signVal) (results_c1 rfl _ _ w.heap.size 66 (signList.map Value.string).toArray (0, 0) _ rfl (blk_new _ _) Tryd.underlying66 rfl (by kernel_rfl)) rfl ⟨rfl, below_alloc (Below.refl _ _) _⟩

theorem sign_index (k : Nat) (hk : k < 18) (w : World) : (Instr.index 66 signVal (.int .i64 (k : Int))).run Tryd.prog w = .ok (.string (signAt k)) w := by
  have h : k = 0 ∨ k = 1 ∨ k = 2 ∨ k = 3 ∨ k = 4 ∨ k = 5 ∨ k = 6 ∨ k = 7 ∨ k = 8 ∨ k = 9 ∨ k = 10 ∨ k = 11 ∨ k = 12 ∨ k = 13 ∨ k = 14 ∨ k = 15 ∨ k = 16 ∨ k = 17 := by omega
  rcases h with rfl | rfl | rfl | rfl | rfl | rfl | rfl | rfl | rfl | rfl | rfl | rfl | rfl | rfl | rfl | rfl | rfl | rfl <;> (show _ = _; kernel_rfl)


end Go.Proofs.YtffeikfffmonkaaDoor
