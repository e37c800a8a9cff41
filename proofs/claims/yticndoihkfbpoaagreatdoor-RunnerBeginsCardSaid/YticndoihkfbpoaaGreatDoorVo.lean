/- Openings of statements, arms, functions, all cells in view; rows of numbers in a block. -/
import Derived.Deep.OwnRows
import Derived.Test.YticndoihkfbpoaaGreatDoorVb
import Derived.Test.YticndoihkfbpoaaGreatDoorVp
namespace Go.Proofs.YticndoihkfbpoaaGreatDoor
open Go Go.RowKit Go.Lib Go.Proofs.YticndoihkfbpoaaGreatDoorW.PrintWords Go.Proofs.YticndoihkfbpoaaGreatDoor.PScope
set_option maxRecDepth 100000
set_option linter.unusedSimpArgs false
set_option linter.unusedVariables false

theorem kFS_openV {w : World} {x : FS} {cs : List Value} (h : kFS.K w x cs) :
    ∃ A4 c4 A8 c8 A9 c9 A6 c6 A7 c7, cs = [.int .i64 x.op, .string x.name, .int .i64 x.pos, .int .i64 x.fn, .slice A4 x.names.length c4, .int .i64 x.e.f0, .string x.e.f1, .int .i64 x.e.f2, .slice A8 x.e.f3.length c8, .slice A9 x.e.f4.length c9, .slice A6 x.args.length c6, .slice A7 x.arms.length c7] ∧
      x.names.length ≤ c4 ∧ Kd.string.C w A4 x.names.length x.names ∧ x.e.f3.length ≤ c8 ∧ Kd.string.C w A8 x.e.f3.length x.e.f3 ∧ x.e.f4.length ≤ c9 ∧ kE.C w A9 x.e.f4.length x.e.f4 ∧ x.args.length ≤ c6 ∧ kE.C w A6 x.args.length x.args ∧ x.arms.length ≤ c7 ∧ kFA.C w A7 x.arms.length x.arms := by
  obtain ⟨A4, c4, ce, A6, c6, A7, c7, rfl, l4, g4, g5, l6, g6, l7, g7⟩ := kFS_open h
  obtain ⟨A8, c8, A9, c9, rfl, l8, g8, l9, g9⟩ := k38_open g5
  exact ⟨A4, c4, A8, c8, A9, c9, A6, c6, A7, c7, rfl, l4, g4, l8, g8, l9, g9, l6, g6, l7, g7⟩
theorem kFS_mk12 (w : World) (x : FS) {A4 A8 A9 A6 A7 : Option Addr} {c4 c8 c9 c6 c7 : Nat} (l4 : x.names.length ≤ c4) (g4 : Kd.string.C w A4 x.names.length x.names) (l8 : x.e.f3.length ≤ c8) (g8 : Kd.string.C w A8 x.e.f3.length x.e.f3) (l9 : x.e.f4.length ≤ c9) (g9 : kE.C w A9 x.e.f4.length x.e.f4) (l6 : x.args.length ≤ c6) (g6 : kE.C w A6 x.args.length x.args) (l7 : x.arms.length ≤ c7) (g7 : kFA.C w A7 x.arms.length x.arms) :
    kFS.K w x [.int .i64 x.op, .string x.name, .int .i64 x.pos, .int .i64 x.fn, .slice A4 x.names.length c4, .int .i64 x.e.f0, .string x.e.f1, .int .i64 x.e.f2, .slice A8 x.e.f3.length c8, .slice A9 x.e.f4.length c9, .slice A6 x.args.length c6, .slice A7 x.arms.length c7] :=
  kFS_unK.2 ⟨[.int .i64 x.op], _, rfl, rfl, ⟨[.string x.name], _, rfl, rfl, ⟨[.int .i64 x.pos], _, rfl, rfl, ⟨[.int .i64 x.fn], _, rfl, rfl, ⟨[.slice A4 x.names.length c4], _, rfl, ⟨A4, c4, rfl, l4, g4⟩, ⟨[.int .i64 x.e.f0, .string x.e.f1, .int .i64 x.e.f2, .slice A8 x.e.f3.length c8, .slice A9 x.e.f4.length c9], _, rfl, k38_mk w x.e l8 g8 l9 g9, ⟨[.slice A6 x.args.length c6], _, rfl, ⟨A6, c6, rfl, l6, g6⟩, ⟨A7, c7, rfl, l7, g7⟩⟩⟩⟩⟩⟩⟩⟩
theorem kFF_open6 {w : World} {x : FF} {cs : List Value} (h : kFF.K w x cs) : ∃ A0 c0 A1 c1 A3 c3 A4 c4 A5 c5, cs = [.slice A0 x.params.length c0, .slice A1 x.results.length c1, .int .i64 x.cells, .slice A3 x.flags.length c3, .slice A4 x.parts.length c4, .slice A5 x.body.length c5] ∧
    x.params.length ≤ c0 ∧ Kd.string.C w A0 x.params.length x.params ∧ x.results.length ≤ c1 ∧ Kd.string.C w A1 x.results.length x.results ∧ x.flags.length ≤ c3 ∧ (Kd.int .i64).C w A3 x.flags.length x.flags ∧ x.parts.length ≤ c4 ∧ kPt.C w A4 x.parts.length x.parts ∧ x.body.length ≤ c5 ∧ kFS.C w A5 x.body.length x.body := by
  obtain ⟨_, _, rfl, ⟨A0, c0, rfl, l0, g0⟩, ⟨_, _, rfl, ⟨A1, c1, rfl, l1, g1⟩, ⟨_, _, rfl, rfl, ⟨_, _, rfl, ⟨A3, c3, rfl, l3, g3⟩, ⟨_, _, rfl, ⟨A4, c4, rfl, l4, g4⟩, ⟨A5, c5, rfl, l5, g5⟩⟩⟩⟩⟩⟩ := h
  exact ⟨A0, c0, A1, c1, A3, c3, A4, c4, A5, c5, rfl, l0, g0, l1, g1, l3, g3, l4, g4, l5, g5⟩
theorem kFF_mk6 (w : World) (x : FF) {A0 A1 A3 A4 A5 : Option Addr} {c0 c1 c3 c4 c5 : Nat} (l0 : x.params.length ≤ c0) (g0 : Kd.string.C w A0 x.params.length x.params) (l1 : x.results.length ≤ c1) (g1 : Kd.string.C w A1 x.results.length x.results) (l3 : x.flags.length ≤ c3) (g3 : (Kd.int .i64).C w A3 x.flags.length x.flags) (l4 : x.parts.length ≤ c4) (g4 : kPt.C w A4 x.parts.length x.parts) (l5 : x.body.length ≤ c5) (g5 : kFS.C w A5 x.body.length x.body) :
    kFF.K w x [.slice A0 x.params.length c0, .slice A1 x.results.length c1, .int .i64 x.cells, .slice A3 x.flags.length c3, .slice A4 x.parts.length c4, .slice A5 x.body.length c5] :=
  ⟨[.slice A0 x.params.length c0], _, rfl, ⟨A0, c0, rfl, l0, g0⟩, ⟨[.slice A1 x.results.length c1], _, rfl, ⟨A1, c1, rfl, l1, g1⟩, ⟨[.int .i64 x.cells], _, rfl, rfl, ⟨[.slice A3 x.flags.length c3], _, rfl, ⟨A3, c3, rfl, l3, g3⟩, ⟨[.slice A4 x.parts.length c4], _, rfl, ⟨A4, c4, rfl, l4, g4⟩, ⟨A5, c5, rfl, l5, g5⟩⟩⟩⟩⟩⟩
theorem kFA_mk2 (w : World) (x : Int × List FS) {A1 : Option Addr} {c1 : Nat} (l1 : x.2.length ≤ c1) (g1 : kFS.C w A1 x.2.length x.2) : kFA.K w x [.int .i64 x.1, .slice A1 x.2.length c1] :=
  ⟨[.int .i64 x.1], _, rfl, rfl, ⟨A1, c1, rfl, l1, g1⟩⟩
def zFA : Int × List FS := (0, [])
def zFF : FF := ⟨[], [], 0, [], [], []⟩

/-! ### rows of numbers -/
/-- A block that holds numbers. -/
def IRow (w : World) (b : Nat) (xs : List Int) : Prop := w.heap[b]? = some (.cells (xs.map (fun x => Value.int .i64 x)).toArray 3 (0, 0))
theorem IRow.cellN {w : World} {b : Nat} {xs : List Int} (h : IRow w b xs) (i : Nat) (h1 : i < xs.length) : w.cell? ⟨b, i, none⟩ = some (.int .i64 (rd0 xs i)) := by
  rw [blk_cell h i]
  unfold rd0
  rw [List.getD_eq_getElem?_getD, Int.toNat_natCast]
  simp [h1]
theorem IRow.set {w : World} {b : Nat} {xs : List Int} (h : IRow w b xs) (i : Nat) (v : Int) : IRow (w.setCell ⟨b, i, none⟩ (.int .i64 v)) b (xs.set i v) := by
  unfold IRow at h ⊢
  exact blk_put h i (.int .i64 v) (by simp [List.map_set])
theorem IRow.row {w : World} {b : Nat} {xs : List Int} (h : IRow w b xs) (hm : xs.length ≤ 9223372036854775807) : (Kd.int .i64).C w (some ⟨b, 0, none⟩) xs.length xs := by
  refine ⟨rfl, hm, fun _ => ⟨⟨b, 0, none⟩, rfl, fun j p hj => ⟨[.int .i64 p], rfl, rfl, fun i u hu => ?_⟩⟩⟩
  have hjl := (List.getElem?_eq_some_iff.1 hj).1
  cases i with
  | succ i => simp at hu
  | zero =>
    simp at hu
    subst hu
    have := h.cellN j hjl
    unfold rd0 at this
    rw [List.getD_eq_getElem?_getD, Int.toNat_natCast, hj] at this
    rw [show (Kd.int .i64).sz = 1 from rfl, Nat.mul_one, Nat.add_zero]
    cases j with
    | zero => exact this
    | succ j => simpa [Addr.add] using this
theorem IRow.made (w : World) (n : Nat) : IRow (w.alloc (.cells (madeCells #[.int .i64 0] n) 3)) w.heap.size (List.replicate n 0) := by
  have := blk_new w (.cells (madeCells #[.int .i64 0] n) 3)
  unfold IRow
  rw [this]
  congr 2
  apply Array.ext'
  simp [madeCells]
  apply List.ext_getElem <;> simp [Nat.mod_one]
/-- .. by its address. -/
def ARow (w : World) (a : Addr) (xs : List Int) : Prop := a = ⟨a.block, 0, none⟩ ∧ IRow w a.block xs
theorem add_zeroed {a : Addr} (h : a = ⟨a.block, 0, none⟩) (i : Nat) : a.add i = ⟨a.block, i, none⟩ := by
  rw [h]
  cases i with
  | zero => rfl
  | succ i => simp [Addr.add]
theorem ARow.cell {w : World} {a : Addr} {xs : List Int} (h : ARow w a xs) (i : Nat) (h1 : i < xs.length) : w.cell? (a.add i) = some (.int .i64 (rd0 xs i)) := by
  rw [add_zeroed h.1]; exact h.2.cellN i h1
theorem ARow.frozen {w : World} {a : Addr} {xs : List Int} (h : ARow w a xs) (i : Nat) : w.frozen? (a.add i) = false := by
  rw [add_zeroed h.1]
  have := h.2
  unfold IRow at this
  simp [World.frozen?, this]
theorem ARow.set {w : World} {a : Addr} {xs : List Int} (h : ARow w a xs) (i : Nat) (v : Int) : ARow (w.setCell (a.add i) (.int .i64 v)) a (xs.set i v) := by
  refine ⟨h.1, ?_⟩
  rw [add_zeroed h.1]; exact h.2.set i v
theorem ARow.far {w : World} {a : Addr} {xs : List Int} (h : ARow w a xs) {b : Addr} {ys : List Int} (hb : ARow w b ys) (hne : a.block ≠ b.block) (i : Nat) (u : Value) : ARow (w.setCell (b.add i) u) a xs := by
  refine ⟨h.1, ?_⟩
  rw [add_zeroed hb.1]
  exact blk_far h.2 (p := ⟨b.block, i, none⟩) hne u
theorem ARow.blkFar {w : World} {b : Addr} {ys : List Int} (hb : ARow w b ys) {g : Nat} {t : TypeId} {cs : Array Value} (h : w.heap[g]? = some (.cells cs t (0, 0))) (hne : g ≠ b.block) (i : Nat) (u : Value) : (w.setCell (b.add i) u).heap[g]? = some (.cells cs t (0, 0)) := by
  rw [add_zeroed hb.1]
  exact blk_far h (p := ⟨b.block, i, none⟩) hne u
theorem ARow.belowSet {w w0 : World} {b : Addr} {ys : List Int} (hb : ARow w b ys) (h : Below w0.heap.size w0 w) (hg : w0.heap.size ≤ b.block) (i : Nat) (u : Value) : Below w0.heap.size w0 (w.setCell (b.add i) u) := by
  rw [add_zeroed hb.1]
  exact below_set h hg
theorem ARow.lt {w : World} {a : Addr} {xs : List Int} (h : ARow w a xs) : a.block < w.heap.size := blk_lt h.2
theorem ARow.below {w w' : World} {a : Addr} {xs : List Int} (h : ARow w a xs) (hb : Below w.heap.size w w') : ARow w' a xs := ⟨h.1, below_blk h.2 hb⟩
theorem ARow.alloc {w : World} {a : Addr} {xs : List Int} (h : ARow w a xs) (o : Obj) : ARow (w.alloc o) a xs := ⟨h.1, blk_alloc h.2 o⟩
theorem ARow.drew {w : World} {a : Addr} {xs : List Int} (h : ARow w a xs) : ARow w.drew a xs := h
theorem ARow.as {W w2 : World} {a : Addr} {xs : List Int} {o' : Obj} (h : ARow W a xs) (hg : (W.alloc o').grownBy w2 (some W.heap.size)) : ARow w2 a xs := ⟨h.1, blk_as h.2 hg⟩
theorem ARow.row {w : World} {a : Addr} {xs : List Int} (h : ARow w a xs) (hm : xs.length ≤ 9223372036854775807) : (Kd.int .i64).C w (some a) xs.length xs := by
  rw [h.1]; exact h.2.row hm
theorem ARow.made (w : World) (n : Nat) : ARow (w.alloc (.cells (madeCells #[.int .i64 0] n) 3)) ⟨w.heap.size, 0, none⟩ (List.replicate n 0) := ⟨rfl, IRow.made w n⟩
theorem info_int : (Tryz.prog.info? 3).map (fun i => (i.zero, i.size, i.bytes)) = some (some (.int .i64 0), 1, 8) := by kernel_rfl
theorem run_make_ints (n : Nat) (hn : n ≤ 17592186044416) (W : World) : (Instr.makeSlice 32 (.int .i64 (n : Int)) (.int .i64 (n : Int))).run Tryz.prog W = .ok (.slice (some ⟨W.heap.size, 0, none⟩) n n) (W.alloc (.cells (madeCells #[.int .i64 0] n) 3)) :=
  run_make_row' 32 3 (.int .i64 0) 8 Tryz.underlying32 info_int rfl .i64 .i64 n (by omega) (by omega) W
end Go.Proofs.YticndoihkfbpoaaGreatDoor
