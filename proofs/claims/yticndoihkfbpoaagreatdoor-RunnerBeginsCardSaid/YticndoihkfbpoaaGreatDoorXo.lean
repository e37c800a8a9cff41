/- A flat program that came in, with its parameters and results; a script that came in. -/
import Derived.Test.YticndoihkfbpoaaGreatDoorVk
namespace Go.Proofs.YticndoihkfbpoaaGreatDoor
open Go Go.ChangeShapes Go.Deep Go.RowKit Go.Lib Go.Proofs.YticndoihkfbpoaaGreatDoorW.PrintWords Go.Proofs.YticndoihkfbpoaaGreatDoor.PScope
set_option maxRecDepth 100000
set_option linter.unusedSimpArgs false
set_option linter.unusedVariables false

theorem bytes_string : Tryz.prog.bytesOf 9 = 16 := by kernel_rfl
theorem cells_rL : Tryz.prog.cellsOf 49 = 1 := by kernel_rfl
section
variable {H : Type} {enc : TypeId × Value → H} {w : World} {base : Nat} {spare : Nat → Bool} {held : Bool}
def HoldG (f : FF) : Prop := HoldF f ∧ f.params.length ≤ 8796093022208 ∧ f.results.length ≤ 8796093022208
theorem open_funcG (fuel : Nat) : ∀ (cs : List Value) (x : DataW H × List MemPlace), DataW.trod enc Tryz.prog w base spare held fuel 35 cs = some x → ∃ z : FF, kFF.K w z cs ∧ (Fits 35 x.1 → HoldG z) := by
  intro cs x h
  obtain ⟨xs, n, hn, rfl, hl, hxl, hf⟩ := DataW.trod_struct Tryz.underlying35 h
  rw [cells_Func] at hl
  match cs, hl, xs, hxl with
  | [v0, v1, v2, v3, v4, v5], _, [y0, y1, y2, y3, y4, y5], _ =>
    have g0 := hf 0 _ rfl
    have g1 := hf 1 _ rfl
    have g2 := hf 2 _ rfl
    have g3 := hf 3 _ rfl
    have g4 := hf 4 _ rfl
    have g5 := hf 5 _ rfl
    simp only [cells_int, cells_rS, cells_rI, cells_rP, cells_rF, List.drop_zero, List.drop_succ_cons, List.take_succ_cons, List.take_zero, List.getElem?_cons_zero, List.getElem?_cons_succ] at g0 g1 g2 g3 g4 g5
    obtain ⟨A0, z0, c0, e0, l0, r0, w0⟩ := open_rowS (d := Kd.string) (fun _ => True) Tryz.underlying31 (by exact cells_string) (fun n' _ cs' y hy => open_str hy) g0
    obtain rfl := (List.cons.inj e0).1
    obtain ⟨A1, z1, c1, e1, l1, r1, w1⟩ := open_rowS (d := Kd.string) (fun _ => True) Tryz.underlying31 (by exact cells_string) (fun n' _ cs' y hy => open_str hy) g1
    obtain rfl := (List.cons.inj e1).1
    obtain ⟨z2, e2, _, _⟩ := DataW.trod_int Tryz.underlying3 g2
    obtain rfl := (List.cons.inj e2).1
    obtain ⟨A3, z3, c3, e3, l3, r3, _⟩ := open_rowS (d := Kd.int .i64) (fun _ => True) Tryz.underlying32 (by exact cells_int) (fun n' _ cs' y hy => open_num hy) g3
    obtain rfl := (List.cons.inj e3).1
    obtain ⟨A4, z4, c4, e4, l4, r4, _⟩ := open_rowS (d := kPt) (fun _ => True) Tryz.underlying33 (by exact cells_Part) (fun n' _ cs' y hy => open_partF n' cs' y hy) g4
    obtain rfl := (List.cons.inj e4).1
    obtain ⟨A5, z5, c5, e5, l5, r5, w5⟩ := open_rowS (d := kFS) HoldS Tryz.underlying30 (by exact cells_FStmt) (fun n' _ cs' y hy => open_stmtF n' cs' y hy) g5
    obtain rfl := (List.cons.inj e5).1
    refine ⟨⟨z0, z1, z2, z3, z4, z5⟩, kFF_mk6 w ⟨z0, z1, z2, z3, z4, z5⟩ l0 r0 l1 r1 l3 r3 l4 r4 l5 r5, fun hfit => ?_⟩
    have q0 := w0 (field_fits Tryz.underlying35 hfit (j := 0) rfl rfl)
    have q1 := w1 (field_fits Tryz.underlying35 hfit (j := 1) rfl rfl)
    rw [bytes_string] at q0 q1
    have := w5 (field_fits Tryz.underlying35 hfit (j := 5) rfl rfl)
    rw [bytes_FStmt] at this
    exact ⟨⟨small_of this, by have := this.1; unfold reachBytes at this; show (z5.length + 2) * 192 ≤ 140737488355328; omega⟩, by have := q0.1; unfold reachBytes at this; show z0.length ≤ 8796093022208; omega, by have := q1.1; unfold reachBytes at this; show z1.length ≤ 8796093022208; omega⟩
/-- The flat program that came in. -/
theorem open_flatG {fuel : Nat} {cs : List Value} {x : DataW H × List MemPlace} (h : DataW.trod enc Tryz.prog w base spare held fuel 24 cs = some x) :
    ∃ (A : Option Addr) (l : List FF) (c : Nat), cs = [.slice A l.length c] ∧ l.length ≤ c ∧ kFF.C w A l.length l ∧ (Fits 24 x.1 → FlatSmall l ∧ (∀ f ∈ l, f.params.length ≤ 8796093022208) ∧ ∀ f ∈ l, f.results.length ≤ 8796093022208) := by
  obtain ⟨xs, n, hn, rfl, hl, hxl, hf⟩ := DataW.trod_struct Tryz.underlying24 h
  have cells_Flat : Tryz.prog.cellsOf 24 = 1 := by kernel_rfl
  rw [cells_Flat] at hl
  match cs, hl, xs, hxl with
  | [v0], _, [y0], _ =>
    have g0 := hf 0 _ rfl
    simp only [cells_rU, List.drop_zero, List.drop_succ_cons, List.take_succ_cons, List.take_zero, List.getElem?_cons_zero, List.getElem?_cons_succ] at g0
    obtain ⟨A0, z0, c0, e0, l0, r0, w0⟩ := open_rowS (d := kFF) HoldG Tryz.underlying22 (by exact cells_Func) (fun n' _ cs' y hy => open_funcG n' cs' y hy) g0
    obtain rfl := (List.cons.inj e0).1
    refine ⟨A0, z0, c0, rfl, l0, r0, fun hfit => ?_⟩
    have := w0 (field_fits Tryz.underlying24 hfit (j := 0) rfl rfl)
    rw [bytes_Func] at this
    exact ⟨⟨by have := this.1; unfold reachBytes at this; omega, fun f hf => (this.2 f hf).1.1, fun f hf => by have := (this.2 f hf).1.2; omega⟩, fun f hf => (this.2 f hf).2.1, fun f hf => (this.2 f hf).2.2⟩
theorem open_num64 {fuel : Nat} {cs : List Value} {x : DataW H × List MemPlace} (h : DataW.trod enc Tryz.prog w base spare held fuel 2 cs = some x) : ∃ z : Int, (Kd.int .i64).K w z cs ∧ (Fits 2 x.1 → True) := by
  obtain ⟨z, e, _, _⟩ := DataW.trod_int Tryz.underlying2 h
  exact ⟨z, e, fun _ => trivial⟩
/-- The script that came in. -/
theorem open_script {fuel : Nat} {cs : List Value} {x : DataW H × List MemPlace} (h : DataW.trod enc Tryz.prog w base spare held fuel 42 cs = some x) :
    ∃ (A : Option Addr) (l : List (List Int)) (c : Nat), cs = [.slice A l.length c] ∧ l.length ≤ c ∧ Kd.C (Kd.slice 2 (Kd.int .i64)) w A l.length l := by
  obtain ⟨A, l, c, e, hl, hC, _⟩ := open_rowS (d := Kd.slice 2 (Kd.int .i64)) (fun _ => True) Tryz.underlying42 (by exact cells_rL) (fun n' _ cs' y hy => by
    obtain ⟨A', l', c', e', hl', hC', _⟩ := open_rowS (d := Kd.int .i64) (fun _ => True) Tryz.underlying49 (by exact cells_int64) (fun n'' _ cs'' y'' hy'' => open_num64 hy'') hy
    exact ⟨l', ⟨A', c', e', hl', hC'⟩, fun _ => trivial⟩) h
  exact ⟨A, l, c, e, hl, hC⟩
end
end Go.Proofs.YticndoihkfbpoaaGreatDoor
