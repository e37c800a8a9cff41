/- A slice of tokens that came in: its tokens, and how much they hold. -/
import Derived.Deep.Slices
import Derived.ChangeArms
import Derived.Test.YtffeikfffmonkaaDoorPScanx0
import Derived.Test.YtffeikfffmonkaaDoorRows
namespace Go.Proofs.YtffeikfffmonkaaDoor
open Go Go.ChangeShapes Go.Deep Go.RowKit Go.Lib Go.Proofs.YtffeikfffmonkaaDoorW.PrintWords PScan
set_option maxRecDepth 100000
set_option linter.unusedSimpArgs false
set_option linter.unusedVariables false

theorem cells_int : Tryd.prog.cellsOf 3 = 1 := by kernel_rfl
theorem cells_int64 : Tryd.prog.cellsOf 2 = 1 := by kernel_rfl
theorem cells_string : Tryd.prog.cellsOf 9 = 1 := by kernel_rfl
theorem cells_token : Tryd.prog.cellsOf 32 = 5 := by kernel_rfl

theorem open_token {H : Type} {enc : TypeId × Value → H} {w : World} {base fuel : Nat} {spare : Nat → Bool} {held : Bool} {cs : List Value} {x : DataW H × List MemPlace}
    (h : DataW.trod enc Tryd.prog w base spare held fuel 32 cs = some x) :
    ∃ z : S32, cs = [.int .i64 z.f0, .string z.f1, .int .i64 z.f2, .int .i64 z.f3, .int .i64 z.f4] ∧ z.f1.size + 1 ≤ Rows.uptoBulk x.1 := by
  obtain ⟨xs, n, _, rfl, hl, hxl, hf⟩ := DataW.trod_struct Tryd.underlying32 h
  rw [cells_token] at hl
  match cs, hl, xs, hxl with
  | [c0, c1, c2, c3, c4], _, [y0, y1, y2, y3, y4], _ =>
    have g0 := hf 0 _ rfl
    have g1 := hf 1 _ rfl
    have g2 := hf 2 _ rfl
    have g3 := hf 3 _ rfl
    have g4 := hf 4 _ rfl
    simp only [cells_int, cells_int64, cells_string, List.drop_zero, List.drop_succ_cons, List.take_succ_cons, List.take_zero, List.getElem?_cons_zero, List.getElem?_cons_succ] at g0 g1 g2 g3 g4
    obtain ⟨z0, e0, _, _⟩ := DataW.trod_int Tryd.underlying3 g0
    obtain ⟨z1, e1, x1, _⟩ := DataW.trod_string Tryd.underlying9 g1
    obtain ⟨z2, e2, _, _⟩ := DataW.trod_int Tryd.underlying2 g2
    obtain ⟨z3, e3, _, _⟩ := DataW.trod_int Tryd.underlying3 g3
    obtain ⟨z4, e4, _, _⟩ := DataW.trod_int Tryd.underlying3 g4
    obtain rfl := (List.cons.inj e0).1
    obtain rfl := (List.cons.inj e1).1
    obtain rfl := (List.cons.inj e2).1
    obtain rfl := (List.cons.inj e3).1
    obtain rfl := (List.cons.inj e4).1
    refine ⟨⟨z0, z1, z2, z3, z4⟩, rfl, ?_⟩
    subst x1
    simp only [List.map_cons, List.map_nil, Rows.uptoBulk, Rows.uptoBulkAll]
    have := data_length z1
    omega

def textSum : List S32 → Nat
  | [] => 0
  | z :: l => z.f1.size + 1 + textSum l

theorem bulk_append {H : Type} (l m : List (DataW H)) : Rows.uptoBulkAll (l ++ m) = Rows.uptoBulkAll l + Rows.uptoBulkAll m := by
  induction l with
  | nil => simp [Rows.uptoBulkAll]
  | cons d l ih => simp only [List.cons_append, Rows.uptoBulkAll, ih]; omega

/-- The tokens of a slice that came in. -/
theorem open_tokens {H : Type} {enc : TypeId × Value → H} {w : World} {base fuel : Nat} {spare : Nat → Bool} {held : Bool} {A : Option Addr} {len cap : Nat} {x : DataW H × List MemPlace}
    (h : DataW.trod enc Tryd.prog w base spare held fuel 23 [.slice A len cap] = some x) :
    ∃ l : List S32, l.length = len ∧ Kd.C k32 w A l.length l ∧ l.length ≤ cap ∧ textSum l ≤ Rows.uptoBulk x.1 := by
  rcases open_slice Tryd.underlying23 h with ⟨hcs, rfl⟩ | ⟨a, l, c, m, n, D, Pl, hcs, hb, hl, hm, hmm, rfl, hcells⟩
  · have e := (List.cons.inj hcs).1
    simp only [Value.slice.injEq] at e
    obtain ⟨rfl, rfl, rfl⟩ := e
    exact ⟨[], rfl, Kd.C_nil _ _, Nat.le_refl _, Nat.zero_le _⟩
  · have e := (List.cons.inj hcs).1
    simp only [Value.slice.injEq] at e
    obtain ⟨rfl, rfl, rfl⟩ := e
    have hlm : len ≤ m := by rw [hmm]; split <;> omega
    have each : ∀ i, i < m → ∃ z : S32, (∀ j u, [Value.int .i64 z.f0, .string z.f1, .int .i64 z.f2, .int .i64 z.f3, .int .i64 z.f4][j]? = some u → w.cell? (a.add (i * 5 + j)) = some u) ∧ z.f1.size + 1 ≤ Rows.uptoBulk (D i) := by
      intro i hi
      obtain ⟨cs', h1, h2⟩ := hcells i hi
      obtain ⟨z, rfl, hz⟩ := open_token h2
      rw [cells_token] at h1
      obtain ⟨_, _, hcell⟩ := World.cells?_some h1
      refine ⟨z, fun j u hj => ?_, hz⟩
      have hjl : j < 5 := by have := (List.getElem?_eq_some_iff.mp hj).1; simpa using this
      have := hcell j (by simpa using hjl)
      rw [Deep.add_add] at this
      rw [this]
      exact hj
    haveI : Inhabited S32 := ⟨z32⟩
    obtain ⟨q, hq⟩ := choose_lt each
    refine ⟨(List.range len).map q, by simp, ?_, by simpa using hl, ?_⟩
    · refine ⟨rfl, by simp only [List.length_map, List.length_range]; unfold maxLen at hm; omega, fun _ => ⟨a, rfl, fun j p hp => ?_⟩⟩
      have hj : j < len := by have := (List.getElem?_eq_some_iff.mp hp).1; simpa using this
      have hpq : p = q j := by simp [hj] at hp; exact hp.symm
      subst hpq
      exact ⟨_, rfl, k32_mk w (q j), fun i u hu => (hq j (by omega)).1 i u hu⟩
    · have hsum : ∀ k, k ≤ len → textSum ((List.range k).map q) ≤ Rows.uptoBulkAll ((List.range k).map D) := by
        intro k
        induction k with
        | zero => intro _; exact Nat.le_refl _
        | succ k ih =>
          intro hk
          have h1 := ih (by omega)
          have h2 := (hq k (by omega)).2
          have happ : ∀ (l : List S32) (z : S32), textSum (l ++ [z]) = textSum l + (z.f1.size + 1) := by
            intro l z
            induction l with
            | nil => simp [textSum]
            | cons y l ihl => simp only [List.cons_append, textSum, ihl]; omega
          rw [List.range_succ, List.map_append, List.map_append, List.map_singleton, List.map_singleton, happ, bulk_append]
          simp only [Rows.uptoBulkAll]
          omega
      have := hsum len (Nat.le_refl _)
      simp only [Rows.uptoBulk]
      omega
end Go.Proofs.YtffeikfffmonkaaDoor
