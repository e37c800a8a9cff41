/- The memory of a runner: its cells in a block; a function that begins anew, in plain Lean. -/
import Derived.Deep.OwnRows
import Derived.Laws.IdiomCopy
import Derived.Test.YticndoihkfbpoaaGreatDoorVe
namespace Go.Proofs.YticndoihkfbpoaaGreatDoor
open Go Go.RowKit Go.Lib Go.Proofs.YticndoihkfbpoaaGreatDoorW.PrintWords Go.Proofs.YticndoihkfbpoaaGreatDoor.PScope
set_option maxRecDepth 100000
set_option linter.unusedSimpArgs false
set_option linter.unusedVariables false

/-- The cells of a memory. -/
def memVals : List (Int × Bool) → List Value
  | [] => []
  | c :: r => .int .i64 c.1 :: .bool c.2 :: memVals r
theorem memVals_len : ∀ m : List (Int × Bool), (memVals m).length = 2 * m.length
  | [] => rfl
  | c :: r => by simp only [memVals, List.length_cons, memVals_len r]; omega
theorem memVals_get0 : ∀ (m : List (Int × Bool)) (i : Nat), (memVals m)[i * 2]? = m[i]?.map (fun c => Value.int .i64 c.1)
  | [], i => by simp [memVals]
  | c :: r, 0 => by simp [memVals]
  | c :: r, i + 1 => by
    rw [show (i + 1) * 2 = i * 2 + 1 + 1 by omega]
    simp only [memVals, List.getElem?_cons_succ]
    exact memVals_get0 r i
theorem memVals_get1 : ∀ (m : List (Int × Bool)) (i : Nat), (memVals m)[i * 2 + 1]? = m[i]?.map (fun c => Value.bool c.2)
  | [], i => by simp [memVals]
  | c :: r, 0 => by simp [memVals]
  | c :: r, i + 1 => by
    rw [show (i + 1) * 2 + 1 = i * 2 + 1 + 1 + 1 by omega]
    simp only [memVals, List.getElem?_cons_succ]
    exact memVals_get1 r i
theorem memVals_set : ∀ (m : List (Int × Bool)) (i : Nat) (v : Int) (o : Bool), ((memVals m).set (i * 2) (.int .i64 v)).set (i * 2 + 1) (.bool o) = memVals (m.set i (v, o))
  | [], i, v, o => by simp [memVals]
  | c :: r, 0, v, o => by simp [memVals]
  | c :: r, i + 1, v, o => by
    rw [show (i + 1) * 2 = i * 2 + 1 + 1 by omega]
    simp only [memVals, List.set_cons_succ]
    rw [memVals_set r i v o]
/-- A memory in a block. -/
def MRow (w : World) (a : Addr) (m : List (Int × Bool)) : Prop := a = ⟨a.block, 0, none⟩ ∧ w.heap[a.block]? = some (.cells (memVals m).toArray 91 (0, 0))
theorem add_out {a : Addr} (h : a = ⟨a.block, 0, none⟩) (i j : Nat) : (⟨(a.add i).block, (a.add i).off + j, none⟩ : Addr) = ⟨a.block, i + j, none⟩ := by rw [add_zeroed h]
theorem MRow.cell0 {w : World} {a : Addr} {m : List (Int × Bool)} (h : MRow w a m) (i : Nat) (hi : i < m.length) : w.cell? (a.add (i * 2)) = some (.int .i64 (m.getD i (0, false)).1) := by
  rw [add_zeroed h.1, blk_cell h.2]
  rw [List.getElem?_toArray, memVals_get0, List.getD_eq_getElem?_getD, List.getElem?_eq_getElem hi]; rfl
theorem MRow.cell1 {w : World} {a : Addr} {m : List (Int × Bool)} (h : MRow w a m) (i : Nat) (hi : i < m.length) : w.cell? ⟨(a.add (i * 2)).block, (a.add (i * 2)).off + 1, none⟩ = some (.bool (m.getD i (0, false)).2) := by
  rw [add_out h.1, blk_cell h.2]
  rw [List.getElem?_toArray, memVals_get1, List.getD_eq_getElem?_getD, List.getElem?_eq_getElem hi]; rfl
theorem MRow.frozen0 {w : World} {a : Addr} {m : List (Int × Bool)} (h : MRow w a m) (i : Nat) : w.frozen? (a.add i) = false := by
  rw [add_zeroed h.1]; simp [World.frozen?, h.2]
theorem MRow.frozen1 {w : World} {a : Addr} {m : List (Int × Bool)} (h : MRow w a m) (i j : Nat) : w.frozen? ⟨(a.add i).block, (a.add i).off + j, none⟩ = false := by
  rw [add_out h.1]; simp [World.frozen?, h.2]
theorem MRow.set {w : World} {a : Addr} {m : List (Int × Bool)} (h : MRow w a m) (i : Nat) (v : Int) (o : Bool) : MRow ((w.setCell (a.add (i * 2)) (.int .i64 v)).setCell ⟨(a.add (i * 2)).block, (a.add (i * 2)).off + 1, none⟩ (.bool o)) a (m.set i (v, o)) := by
  refine ⟨h.1, ?_⟩
  rw [add_out h.1, add_zeroed h.1]
  have h1 := blk_put h.2 (i * 2) (.int .i64 v) rfl
  refine blk_put h1 (i * 2 + 1) (.bool o) ?_
  rw [← memVals_set]
  simp
theorem MRow.below {w w' : World} {a : Addr} {m : List (Int × Bool)} (h : MRow w a m) (hb : Below w.heap.size w w') : MRow w' a m := ⟨h.1, below_blk h.2 hb⟩
theorem MRow.lt {w : World} {a : Addr} {m : List (Int × Bool)} (h : MRow w a m) : a.block < w.heap.size := blk_lt h.2
theorem MRow.as {W w2 : World} {a : Addr} {m : List (Int × Bool)} {o' : Obj} (h : MRow W a m) (hg : (W.alloc o').grownBy w2 (some W.heap.size)) : MRow w2 a m := ⟨h.1, blk_as h.2 hg⟩

/-! ### clear -/
def zs (n : Nat) : List Value := (Builtin.zeroCells #[.int .i64 0, .bool false] n).toList
theorem zs_zero : zs 0 = [] := by simp [zs, Builtin.zeroCells]
theorem zs_get (n j : Nat) (h : j < n * 2) : (zs n)[j]? = some (if j % 2 = 0 then Value.int .i64 0 else .bool false) := by
  unfold zs Builtin.zeroCells
  simp [h]
  rcases Nat.mod_two_eq_zero_or_one j with e | e <;> rw [e] <;> rfl
theorem zs_len (n : Nat) : (zs n).length = n * 2 := by simp [zs, Builtin.zeroCells]
theorem zs_succ (n : Nat) : zs (n + 1) = .int .i64 0 :: .bool false :: zs n := by
  apply List.ext_getElem?
  intro j
  match j with
  | 0 => rw [zs_get _ _ (by omega)]; rfl
  | 1 => rw [zs_get _ _ (by omega)]; rfl
  | j + 2 =>
    rw [List.getElem?_cons_succ, List.getElem?_cons_succ]
    by_cases h : j < n * 2
    · rw [zs_get _ _ (by omega), zs_get _ _ h, Nat.add_mod_right]
    · rw [List.getElem?_eq_none (by rw [zs_len]; omega), List.getElem?_eq_none (by rw [zs_len]; omega)]
theorem memVals_zero : ∀ n : Nat, memVals (List.replicate n (0, false)) = zs n
  | 0 => by rw [zs_zero]; rfl
  | n + 1 => by rw [List.replicate_succ, memVals, memVals_zero n, zs_succ]
/-- Cells that hold nothing, from b on. -/
def clearM (m : List (Int × Bool)) (b : Nat) : Nat → List (Int × Bool)
  | 0 => m
  | n + 1 => clearM (m.set b (0, false)) (b + 1) n
theorem clearM_len : ∀ (n : Nat) (m : List (Int × Bool)) (b : Nat), (clearM m b n).length = m.length
  | 0, m, b => rfl
  | n + 1, m, b => by rw [clearM, clearM_len n, List.length_set]
theorem MRow.clear {a : Addr} : ∀ (n : Nat) {w : World} {m : List (Int × Bool)} (h : MRow w a m) (b : Nat), MRow (w.setCells a.block (b * 2) (zs n)) a (clearM m b n)
  | 0, w, m, h, b => by rw [zs_zero]; exact h
  | n + 1, w, m, h, b => by
    rw [zs_succ, World.setCells, World.setCells, clearM]
    have h1 := h.set b 0 false
    rw [add_out h.1, add_zeroed h.1] at h1
    have := MRow.clear n h1 (b + 1)
    rw [show (b + 1) * 2 = b * 2 + 1 + 1 by omega] at this
    exact this
theorem turned_setCells {S : Nat → Prop} {a : World} {g : Nat} (hg : S g) : ∀ (vs : List Value) (o : Nat) {b : World}, Turned S a b → Turned S a (b.setCells g o vs)
  | [], o, b, h => h
  | v :: r, o, b, h => turned_setCells hg r (o + 1) (h.set (p := ⟨g, o, none⟩) hg v)
/-- What a slice of the memory starts at. -/
def midAddr (a : Addr) (N lo : Nat) : Addr := if N = lo then a else a.add (lo * 2)
def clearW (w : World) (a : Addr) (lo n : Nat) : World := w.setCells a.block (lo * 2) (zs n)
theorem size_cell (w : World) : (sizeOf 91).run Tryz.prog w = .ok 2 w := by kernel_rfl
theorem zero_cell (w : World) : (zeroValue 91).run Tryz.prog w = .ok (.agg #[.int .i64 0, .bool false]) w := by kernel_rfl
theorem run_slice_mem (a : Addr) (N : Nat) (lo hi : Int) (h0 : 0 ≤ lo) (h1 : lo ≤ hi) (h2 : hi ≤ (N : Int)) (w : World) :
    (Instr.slice 78 (.slice (some a) N N) (some (.int .i64 lo)) (some (.int .i64 hi)) none).run Tryz.prog w = .ok (.slice (some (midAddr a N lo.toNat)) (hi.toNat - lo.toNat) (N - lo.toNat)) w := by
  have e1 : ((hi.toNat : Nat) : Int) = hi := by omega
  have c1 : (0 : Int) ≤ hi ∧ hi ≤ (N : Int) := ⟨by omega, h2⟩
  have c2 : (0 : Int) ≤ lo ∧ lo ≤ ((hi.toNat : Nat) : Int) := ⟨h0, by omega⟩
  unfold midAddr
  by_cases hN : N = lo.toNat
  · simp [Instr.slice, Instr.sliceBounds, Instr.sliceBound, run_underlying Tryz.underlying78, size_cell, c1.1, c1.2, c2.1, c2.2, h0, h1, h2, hN, asIntOf]
    rw [if_pos (by omega), if_pos (by omega)]
  · simp [Instr.slice, Instr.sliceBounds, Instr.sliceBound, run_underlying Tryz.underlying78, size_cell, c1.1, c1.2, c2.1, c2.2, h0, h1, h2, hN, asIntOf]
    intro hx
    omega
theorem run_clear_mem {w : World} {a : Addr} {m : List (Int × Bool)} (h : MRow w a m) (lo hi : Nat) (h1 : lo ≤ hi) (h2 : hi ≤ m.length) (c : Nat) (ty : TypeId) :
    (Builtin.clear_ #[78] ty #[.slice (some (midAddr a m.length lo)) (hi - lo) c]).run Tryz.prog w = .ok (.tuple #[]) (clearW w a lo (hi - lo)) := by
  rcases Nat.eq_zero_or_pos (hi - lo) with hz | hp
  · rw [hz]
    unfold clearW
    rw [zs_zero]
    simp [Builtin.clear_, run_underlying Tryz.underlying78, World.setCells]
  · have hm : midAddr a m.length lo = ⟨a.block, lo * 2, none⟩ := by
      unfold midAddr
      rw [if_neg (by omega), add_zeroed h.1]
    obtain ⟨k, hk⟩ : ∃ k, hi - lo = k + 1 := ⟨hi - lo - 1, by omega⟩
    have hst := run_storeCells_cells (P := Tryz.prog) a.block (lo * 2) (zs (hi - lo)) 0 w
      (fun j hj => by
        rw [zs_len] at hj
        rw [Nat.add_zero, blk_cell h.2, List.getElem?_toArray, List.getElem?_eq_getElem (by rw [memVals_len]; omega)]; rfl)
      (fun j hj => by simp [World.frozen?, h.2])
      (fun v hv => by
        obtain ⟨j, hj⟩ := List.getElem?_of_mem hv
        have hl := (List.getElem?_eq_some_iff.1 hj).1
        rw [zs_len] at hl
        rw [zs_get _ _ hl] at hj
        injection hj with hj
        rw [← hj]
        split <;> rfl)
    rw [hm]
    unfold clearW
    rw [Nat.add_zero] at hst
    rw [hk] at hst ⊢
    unfold zs at hst ⊢
    simp [Builtin.clear_, run_underlying Tryz.underlying78, zero_cell, show (Value.agg #[.int .i64 0, .bool false]).cells = #[.int .i64 0, .bool false] from rfl, hst]

/-! ### a function begins anew -/
def flagsM (base : Int) : List Int → List (Int × Bool) → List (Int × Bool)
  | [], m => m
  | n :: r, m => flagsM base r (m.set (base + n).toNat (1, true))
def partsM (A : Int → Int → List (Int × Bool) → List (Int × Bool)) (base : Int) : List S103 → List (Int × Bool) → List (Int × Bool)
  | [], m => m
  | p :: r, m => partsM A base r (A p.f1 (base + p.f0) m)
def anewF (l : List FF) : Nat → Int → Int → List (Int × Bool) → List (Int × Bool)
  | 0, _, _, m => m
  | d + 1, k, base, m => partsM (anewF l d) base (l.getD k.toNat zFF).parts (flagsM base (l.getD k.toNat zFF).flags (clearM m base.toNat (l.getD k.toNat zFF).cells.toNat))
/-- A function that is as it should be. -/
theorem funOk {l : List FF} (h : flatOk l = true) {k : Nat} (hk : k < l.length) : funBad l k (l.getD k zFF) = false := by
  have hb : anyBad l 0 l = false := by
    unfold flatOk at h
    simp only [Bool.and_eq_true, Bool.not_eq_true'] at h
    exact h.1
  have key : ∀ (r : List FF) (j : Nat), anyBad l j r = false → ∀ i, i < r.length → funBad l (j + i) (r.getD i zFF) = false := by
    intro r
    induction r with
    | nil => intro j _ i hi; simp at hi
    | cons f r ih =>
      intro j hj i hi
      rw [anyBad, Bool.or_eq_false_iff] at hj
      cases i with
      | zero => exact hj.1
      | succ i =>
        have := ih (j + 1) hj.2 i (by simpa using hi)
        rw [show j + (i + 1) = j + 1 + i by omega]
        exact this
  have := key l 0 hb k hk
  rwa [Nat.zero_add] at this
structure FunOk (l : List FF) (k : Nat) (x : FF) : Prop where
  c0 : 0 ≤ x.cells
  c1 : x.cells ≤ 1000
  body : badL (k : Int) x.body = false
  flags : ∀ n ∈ x.flags, 0 ≤ n ∧ n < x.cells
  parts : ∀ p ∈ x.parts, 0 ≤ p.f1 ∧ p.f1 < (k : Int) ∧ 0 ≤ p.f0 ∧ p.f0 ≤ x.cells ∧ (l.getD p.f1.toNat zFF).cells ≤ x.cells - p.f0
theorem FunOk.of {l : List FF} {k : Nat} {x : FF} (h : funBad l k x = false) : FunOk l k x := by
  unfold funBad headBad at h
  simp only [Bool.or_eq_false_iff, decide_eq_false_iff_not, List.any_eq_false, Bool.not_eq_true] at h
  obtain ⟨⟨⟨⟨h0, h1⟩, h2⟩, h3⟩, h4⟩ := h
  refine ⟨by omega, by omega, h2, fun n hn => ?_, fun p hp => ?_⟩
  · have := h3 n hn
    unfold flagBad at this
    simp only [Bool.or_eq_false_iff, decide_eq_false_iff_not] at this
    omega
  · have := h4 p hp
    unfold partBad at this
    simp only [Bool.or_eq_false_iff, decide_eq_false_iff_not, cellsAt_getD] at this
    omega
end Go.Proofs.YticndoihkfbpoaaGreatDoor
