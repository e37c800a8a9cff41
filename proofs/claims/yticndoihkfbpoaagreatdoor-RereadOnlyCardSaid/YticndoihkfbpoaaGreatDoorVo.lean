/- Openings of statements, arms, functions, all cells in view; rows of numbers in a block. -/
import Derived.Test.YticndoihkfbpoaaGreatDoorVb
import Derived.Test.YticndoihkfbpoaaGreatDoorVp
namespace Go.Proofs.YticndoihkfbpoaaGreatDoor
open Go Go.RowKit Go.Lib Go.Proofs.YticndoihkfbpoaaGreatDoorW.PrintWords Go.Proofs.YticndoihkfbpoaaGreatDoor.PScope
set_option maxRecDepth 100000
set_option linter.unusedSimpArgs false
set_option linter.unusedVariables false
theorem kFS_openV {w : World} {x : FS} {cs : List Value} (h : kFS.K w x cs) :
  ∃ A4 c4 A8 c8 A9 c9 A6 c6 A7 c7, cs = [.int .i64 x.op, .string x.name, .int .i64 x.pos, .int .i64 x.fn, .slice A4 x.names.length c4, .int .i64 x.e.f0, .string x.e.f1, .int .i64 x.e.f2, .slice A8 x.e.f3.length c8, .slice A9 x.e.f4.length c9, .slice A6 x.args.length c6, .slice A7 x.arms.length c7] ∧
   x.names.length ≤ c4 ∧ Kd.string.C w A4 x.names.length x.names ∧ x.e.f3.length ≤ c8 ∧ Kd.string.C w A8 x.e.f3.length x.e.f3 ∧ x.e.f4.length ≤ c9 ∧ kE.C w A9 x.e.f4.length x.e.f4 ∧ x.args.length ≤ c6 ∧ kE.C w A6 x.args.length x.args ∧ x.arms.length ≤ c7 ∧ kFA.C w A7 x.arms.length x.arms := by
 obtain ⟨A4, c4, ce, A6, c6, A7, c7, rfl, l4, g4, g5, l6, g6, l7, g7⟩ := kFS_open h
 obtain ⟨A8, c8, A9, c9, rfl, l8, g8, l9, g9⟩ := k38_open g5
 exact ⟨A4, c4, A8, c8, A9, c9, A6, c6, A7, c7, rfl, l4, g4, l8, g8, l9, g9, l6, g6, l7, g7⟩
theorem kFF_open6 {w : World} {x : FF} {cs : List Value} (h : kFF.K w x cs) : ∃ A0 c0 A1 c1 A3 c3 A4 c4 A5 c5, cs = [.slice A0 x.params.length c0, .slice A1 x.results.length c1, .int .i64 x.cells, .slice A3 x.flags.length c3, .slice A4 x.parts.length c4, .slice A5 x.body.length c5] ∧
  x.params.length ≤ c0 ∧ Kd.string.C w A0 x.params.length x.params ∧ x.results.length ≤ c1 ∧ Kd.string.C w A1 x.results.length x.results ∧ x.flags.length ≤ c3 ∧ (Kd.int .i64).C w A3 x.flags.length x.flags ∧ x.parts.length ≤ c4 ∧ kPt.C w A4 x.parts.length x.parts ∧ x.body.length ≤ c5 ∧ kFS.C w A5 x.body.length x.body := by
 obtain ⟨_, _, rfl, ⟨A0, c0, rfl, l0, g0⟩, ⟨_, _, rfl, ⟨A1, c1, rfl, l1, g1⟩, ⟨_, _, rfl, rfl, ⟨_, _, rfl, ⟨A3, c3, rfl, l3, g3⟩, ⟨_, _, rfl, ⟨A4, c4, rfl, l4, g4⟩, ⟨A5, c5, rfl, l5, g5⟩⟩⟩⟩⟩⟩ := h
 exact ⟨A0, c0, A1, c1, A3, c3, A4, c4, A5, c5, rfl, l0, g0, l1, g1, l3, g3, l4, g4, l5, g5⟩
def zFA : Int × List FS := (0, [])
def zFF : FF := ⟨[], [], 0, [], [], []⟩
end Go.Proofs.YticndoihkfbpoaaGreatDoor
