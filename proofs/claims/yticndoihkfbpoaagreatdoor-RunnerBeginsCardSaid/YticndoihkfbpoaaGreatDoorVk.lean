/- A flat program that came in: its functions, and that a machine can hold it. -/
import Derived.Deep.Slices
import Derived.ChangeArms
import Derived.SizedLaws
import Derived.Test.YticndoihkfbpoaaGreatDoorVo
import Derived.Test.YticndoihkfbpoaaGreatDoorRows
namespace Go.Proofs.YticndoihkfbpoaaGreatDoor
open Go Go.ChangeShapes Go.Deep Go.RowKit Go.Lib Go.Proofs.YticndoihkfbpoaaGreatDoorW.PrintWords Go.Proofs.YticndoihkfbpoaaGreatDoor.PScope
set_option maxRecDepth 100000
set_option linter.unusedSimpArgs false
set_option linter.unusedVariables false

theorem cells_int : Tryz.prog.cellsOf 3 = 1 := by kernel_rfl
theorem cells_int64 : Tryz.prog.cellsOf 2 = 1 := by kernel_rfl
theorem cells_string : Tryz.prog.cellsOf 9 = 1 := by kernel_rfl
theorem cells_Expr : Tryz.prog.cellsOf 38 = 5 := by kernel_rfl
theorem cells_FStmt : Tryz.prog.cellsOf 41 = 12 := by kernel_rfl
theorem cells_FArm : Tryz.prog.cellsOf 147 = 2 := by kernel_rfl
theorem cells_Part : Tryz.prog.cellsOf 103 = 2 := by kernel_rfl
theorem cells_Func : Tryz.prog.cellsOf 35 = 6 := by kernel_rfl
theorem cells_rS : Tryz.prog.cellsOf 31 = 1 := by kernel_rfl
theorem cells_rE : Tryz.prog.cellsOf 36 = 1 := by kernel_rfl
theorem cells_rA : Tryz.prog.cellsOf 39 = 1 := by kernel_rfl
theorem cells_rF : Tryz.prog.cellsOf 30 = 1 := by kernel_rfl
theorem cells_rI : Tryz.prog.cellsOf 32 = 1 := by kernel_rfl
theorem cells_rP : Tryz.prog.cellsOf 33 = 1 := by kernel_rfl
theorem cells_rU : Tryz.prog.cellsOf 22 = 1 := by kernel_rfl
theorem bytes_FStmt : Tryz.prog.bytesOf 41 = 192 := by kernel_rfl
theorem bytes_FArm : Tryz.prog.bytesOf 147 = 32 := by kernel_rfl
theorem bytes_Func : Tryz.prog.bytesOf 35 = 128 := by kernel_rfl
/-- All weights may be. -/
abbrev Fits {H : Type} (t : Nat) (d : DataW H) : Prop := (d.weights Tryz.prog t).all (· ≤ reachBytes) = true
theorem open_listS {H α : Type} {P : Nat → α → Prop} (Q : α → Prop) (e : Nat) (els : List (DataW H × List MemPlace)) : ∀ (off : Nat), (∀ i (hi : i < els.length), ∃ z, P (off + i) z ∧ (Fits e (els[i]'hi).1 → Q z)) →
    ∃ l : List α, l.length = els.length ∧ (∀ i z, l[i]? = some z → P (off + i) z) ∧ ((DataW.weightsAll Tryz.prog e (els.map (·.1))).all (· ≤ reachBytes) = true → ∀ z ∈ l, Q z) := by
  induction els with
  | nil => intro off _; exact ⟨[], rfl, fun i z h => by simp at h, fun _ z hz => by simp at hz⟩
  | cons x r ih =>
    intro off h
    obtain ⟨z, hz, hw⟩ := h 0 (by simp)
    obtain ⟨l, h1, h2, h3⟩ := ih (off + 1) (fun i hi => by
      obtain ⟨y, hy, hw⟩ := h (i + 1) (by simp; omega)
      exact ⟨y, by rw [show off + 1 + i = off + (i + 1) by omega]; exact hy, by simpa using hw⟩)
    refine ⟨z :: l, by simp [h1], fun i y hy => ?_, fun hf => ?_⟩
    · cases i with
      | zero => simp at hy; subst hy; exact hz
      | succ i => have := h2 i y (by simpa using hy); rw [show off + (i + 1) = off + 1 + i by omega]; exact this
    · simp only [List.map_cons, DataW.weightsAll, List.all_append, Bool.and_eq_true] at hf
      intro y hy
      rcases List.mem_cons.1 hy with rfl | hy
      · exact hw hf.1
      · exact h3 hf.2 y hy
theorem field_fits {H : Type} {t : Nat} {fs : Array Field} {parts : List (DataW H)} (ht : Tryz.prog.underlying t = some (.struct fs)) (h : Fits t (DataW.agg parts)) {j u : Nat} {d : DataW H} (hj : (fs.toList.map (·.type))[j]? = some u) (hd : parts[j]? = some d) : Fits u d := by
  unfold Fits at h ⊢
  rw [DataW.weights, ht] at h
  exact List.all_eq_true.2 (fun n hn => List.all_eq_true.1 h n (DataW.weights_mem_each hj hd n hn))
section
variable {H : Type} {enc : TypeId × Value → H} {w : World} {base : Nat} {spare : Nat → Bool} {held : Bool}
theorem open_rowS {α : Type} {d : Kd α} (Q : α → Prop) {e t : TypeId} {fuel : Nat} {cs : List Value} {x : DataW H × List MemPlace} (ht : Tryz.prog.underlying t = some (.slice e)) (hsz : Tryz.prog.cellsOf e = d.sz)
    (hel : ∀ n, n < fuel → ∀ cs' y, DataW.trod enc Tryz.prog w base spare held n e cs' = some y → ∃ z, d.K w z cs' ∧ (Fits e y.1 → Q z))
    (h : DataW.trod enc Tryz.prog w base spare held fuel t cs = some x) : ∃ A l c, cs = [.slice A (List.length l) c] ∧ l.length ≤ c ∧ d.C w A l.length l ∧ (Fits t x.1 → l.length * Tryz.prog.bytesOf e ≤ reachBytes ∧ ∀ z ∈ l, Q z) := by
  rcases DataW.trod_slice ht h with ⟨rfl, rfl⟩ | ⟨a, len, cap, elems, rest, n, hn, rfl, rfl, hb, hl, hm, hlen, hel', _, _⟩
  · exact ⟨none, [], 0, rfl, Nat.le_refl _, Kd.C_nil _ _, fun _ => ⟨by simp, fun z hz => by simp at hz⟩⟩
  · obtain ⟨l, h1, h2, h3⟩ := open_listS (P := fun i z => ∃ cs', d.K w z cs' ∧ ∀ j u, cs'[j]? = some u → w.cell? (a.add (i * d.sz + j)) = some u) Q e elems 0 (fun i hi => by
      have hk := hel' i (by omega)
      rw [List.getElem?_eq_getElem hi] at hk
      obtain ⟨cs', k1, k2⟩ := Option.bind_eq_some_iff.1 hk
      obtain ⟨z, hz, hw⟩ := hel n (by omega) cs' _ k2
      obtain ⟨_, hlc, hcell⟩ := World.cells?_some k1
      refine ⟨z, ⟨cs', hz, fun j u hj => ?_⟩, hw⟩
      have hjl : j < cs'.length := (List.getElem?_eq_some_iff.mp hj).1
      have hjs : j < Tryz.prog.cellsOf e := by rw [hsz]; rw [d.K_len hz] at hjl; exact hjl
      have := hcell j hjs
      rw [Deep.add_add, hsz] at this
      rw [Nat.zero_add, this]
      exact hj)
    refine ⟨some a, l, cap, by rw [h1, hlen], by omega, ⟨rfl, by unfold maxLen at hm; omega, fun _ => ⟨a, rfl, fun j q hj => ?_⟩⟩, fun hf => ?_⟩
    · obtain ⟨cs', hK, hc⟩ := h2 j q hj
      refine ⟨cs', d.K_len hK, hK, fun i u hu => ?_⟩
      have := hc i u hu
      rw [Nat.zero_add] at this
      exact this
    · unfold Fits at hf
      rw [DataW.weights, ht] at hf
      simp only [List.all_cons, List.all_append, Bool.and_eq_true, decide_eq_true_eq] at hf
      refine ⟨?_, h3 hf.2.1⟩
      rw [h1]
      refine Nat.le_trans ?_ hf.1
      rw [List.length_map]
      exact Nat.mul_le_mul_right _ (Nat.le_add_right _ _)
theorem open_str {fuel : Nat} {cs : List Value} {x : DataW H × List MemPlace} (h : DataW.trod enc Tryz.prog w base spare held fuel 9 cs = some x) : ∃ z : ByteArray, Kd.string.K w z cs ∧ (Fits 9 x.1 → True) := by
  obtain ⟨z, rfl, rfl, _⟩ := DataW.trod_string Tryz.underlying9 h
  exact ⟨z, rfl, fun _ => trivial⟩
theorem open_num {fuel : Nat} {cs : List Value} {x : DataW H × List MemPlace} (h : DataW.trod enc Tryz.prog w base spare held fuel 3 cs = some x) : ∃ z : Int, (Kd.int .i64).K w z cs ∧ (Fits 3 x.1 → True) := by
  obtain ⟨z, rfl, _, _⟩ := DataW.trod_int Tryz.underlying3 h
  exact ⟨z, rfl, fun _ => trivial⟩
theorem open_partF (fuel : Nat) : ∀ (cs : List Value) (x : DataW H × List MemPlace), DataW.trod enc Tryz.prog w base spare held fuel 103 cs = some x → ∃ z : S103, kPt.K w z cs ∧ (Fits 103 x.1 → True) := by
  intro cs x h
  obtain ⟨xs, n, hn, rfl, hl, hxl, hf⟩ := DataW.trod_struct Tryz.underlying103 h
  rw [cells_Part] at hl
  match cs, hl, xs, hxl with
  | [v0, v1], _, [y0, y1], _ =>
    have g0 := hf 0 _ rfl
    have g1 := hf 1 _ rfl
    simp only [cells_int, List.drop_zero, List.drop_succ_cons, List.take_succ_cons, List.take_zero, List.getElem?_cons_zero, List.getElem?_cons_succ] at g0 g1
    obtain ⟨z0, e0, _, _⟩ := DataW.trod_int Tryz.underlying3 g0
    obtain rfl := (List.cons.inj e0).1
    obtain ⟨z1, e1, _, _⟩ := DataW.trod_int Tryz.underlying3 g1
    obtain rfl := (List.cons.inj e1).1
    exact ⟨⟨z0, z1⟩, k103_mk w ⟨z0, z1⟩, fun _ => trivial⟩
theorem open_exprF (fuel : Nat) : ∀ (cs : List Value) (x : DataW H × List MemPlace), DataW.trod enc Tryz.prog w base spare held fuel 38 cs = some x → ∃ z : S38, k38.K w z cs ∧ (Fits 38 x.1 → True) := by
  induction fuel using Nat.strongRecOn with
  | _ fuel ih =>
    intro cs x h
    obtain ⟨xs, n, hn, rfl, hl, hxl, hf⟩ := DataW.trod_struct Tryz.underlying38 h
    rw [cells_Expr] at hl
    match cs, hl, xs, hxl with
    | [v0, v1, v2, v3, v4], _, [y0, y1, y2, y3, y4], _ =>
      have g0 := hf 0 _ rfl
      have g1 := hf 1 _ rfl
      have g2 := hf 2 _ rfl
      have g3 := hf 3 _ rfl
      have g4 := hf 4 _ rfl
      simp only [cells_int, cells_int64, cells_string, cells_rS, cells_rE, List.drop_zero, List.drop_succ_cons, List.take_succ_cons, List.take_zero, List.getElem?_cons_zero, List.getElem?_cons_succ] at g0 g1 g2 g3 g4
      obtain ⟨z0, e0, _, _⟩ := DataW.trod_int Tryz.underlying3 g0
      obtain rfl := (List.cons.inj e0).1
      obtain ⟨z1, e1, _, _⟩ := DataW.trod_string Tryz.underlying9 g1
      obtain rfl := (List.cons.inj e1).1
      obtain ⟨z2, e2, _, _⟩ := DataW.trod_int Tryz.underlying2 g2
      obtain rfl := (List.cons.inj e2).1
      obtain ⟨A3, z3, c3, e3, l3, r3, _⟩ := open_rowS (d := Kd.string) (fun _ => True) Tryz.underlying31 (by exact cells_string) (fun n' _ cs' y hy => open_str hy) g3
      obtain rfl := (List.cons.inj e3).1
      obtain ⟨A4, z4, c4, e4, l4, r4, _⟩ := open_rowS (d := k38) (fun _ => True) Tryz.underlying36 (by exact cells_Expr) (fun n' hn' cs' y hy => ih n' (by omega) cs' y hy) g4
      obtain rfl := (List.cons.inj e4).1
      exact ⟨⟨z0, z1, z2, z3, z4⟩, k38_mk w ⟨z0, z1, z2, z3, z4⟩ l3 r3 l4 r4, fun _ => trivial⟩
/-- A statement of a size that a machine can hold. -/
def HoldS (s : FS) : Prop := s.arms.length ≤ 8796093022208 ∧ ∀ a ∈ s.arms, Small a.2
theorem small_of {l : List FS} (h : l.length * 192 ≤ reachBytes ∧ ∀ z ∈ l, HoldS z) : Small l := ⟨l, by have := h.1; unfold reachBytes at this; omega, fun s hs => (h.2 s hs).1, fun s hs => (h.2 s hs).2⟩
theorem open_stmtF (fuel : Nat) : ∀ (cs : List Value) (x : DataW H × List MemPlace), DataW.trod enc Tryz.prog w base spare held fuel 41 cs = some x → ∃ z : FS, kFS.K w z cs ∧ (Fits 41 x.1 → HoldS z) := by
  induction fuel using Nat.strongRecOn with
  | _ fuel ih =>
    intro cs x h
    obtain ⟨xs, n, hn, rfl, hl, hxl, hf⟩ := DataW.trod_struct Tryz.underlying41 h
    rw [cells_FStmt] at hl
    match cs, hl, xs, hxl with
    | [v0, v1, v2, v3, v4, v5, v6, v7, v8, v9, v10, v11], _, [y0, y1, y2, y3, y4, y5, y6, y7], _ =>
      have g0 := hf 0 _ rfl
      have g1 := hf 1 _ rfl
      have g2 := hf 2 _ rfl
      have g3 := hf 3 _ rfl
      have g4 := hf 4 _ rfl
      have g5 : DataW.trod enc Tryz.prog w base spare held n 38 ((List.drop 5 [v0, v1, v2, v3, v4, v5, v6, v7, v8, v9, v10, v11]).take (Tryz.prog.cellsOf 38)) = some y5 := hf 5 _ rfl
      have g6 := hf 6 _ rfl
      have g7 := hf 7 _ rfl
      simp only [cells_int, cells_string, cells_Expr, cells_rS, cells_rE, cells_rA, List.drop_zero, List.drop_succ_cons, List.take_succ_cons, List.take_zero, List.getElem?_cons_zero, List.getElem?_cons_succ] at g0 g1 g2 g3 g4 g5 g6 g7
      obtain ⟨z0, e0, _, _⟩ := DataW.trod_int Tryz.underlying3 g0
      obtain rfl := (List.cons.inj e0).1
      obtain ⟨z1, e1, _, _⟩ := DataW.trod_string Tryz.underlying9 g1
      obtain rfl := (List.cons.inj e1).1
      obtain ⟨z2, e2, _, _⟩ := DataW.trod_int Tryz.underlying3 g2
      obtain rfl := (List.cons.inj e2).1
      obtain ⟨z3, e3, _, _⟩ := DataW.trod_int Tryz.underlying3 g3
      obtain rfl := (List.cons.inj e3).1
      obtain ⟨A4, z4, c4, e4, l4, r4, _⟩ := open_rowS (d := Kd.string) (fun _ => True) Tryz.underlying31 (by exact cells_string) (fun n' _ cs' y hy => open_str hy) g4
      obtain rfl := (List.cons.inj e4).1
      obtain ⟨z5, K5, _⟩ := open_exprF n _ _ g5
      obtain ⟨A8, c8, A9, c9, e5, l8, g8, l9, g9⟩ := k38_open K5
      simp only [List.cons.injEq, and_true] at e5
      obtain ⟨rfl, rfl, rfl, rfl, rfl⟩ := e5
      obtain ⟨A6, z6, c6, e6, l6, r6, _⟩ := open_rowS (d := kE) (fun _ => True) Tryz.underlying36 (by exact cells_Expr) (fun n' _ cs' y hy => open_exprF n' cs' y hy) g6
      obtain rfl := (List.cons.inj e6).1
      obtain ⟨A7, z7, c7, e7, l7, r7, w7⟩ := open_rowS (d := kFA) (fun a : Int × List FS => Small a.2) Tryz.underlying39 (by exact cells_FArm) (fun n' hn' cs' y hy => by
        obtain ⟨xs', m, hm, rfl, hl', hxl', hf'⟩ := DataW.trod_struct Tryz.underlying147 hy
        rw [cells_FArm] at hl'
        match cs', hl', xs', hxl' with
        | [u0, u1], _, [q0, q1], _ =>
          have k0 := hf' 0 _ rfl
          have k1 := hf' 1 _ rfl
          simp only [cells_int64, cells_rF, List.drop_zero, List.drop_succ_cons, List.take_succ_cons, List.take_zero, List.getElem?_cons_zero, List.getElem?_cons_succ] at k0 k1
          obtain ⟨a0, f0, _, _⟩ := DataW.trod_int Tryz.underlying2 k0
          obtain rfl := (List.cons.inj f0).1
          obtain ⟨B1, b1, d1, f1, m1, s1, t1⟩ := open_rowS (d := kFS) HoldS Tryz.underlying30 (by exact cells_FStmt) (fun n'' hn'' cs'' y'' hy'' => ih n'' (by omega) cs'' y'' hy'') k1
          obtain rfl := (List.cons.inj f1).1
          exact ⟨(a0, b1), kFA_mk2 w (a0, b1) m1 s1, fun hfit => small_of (by have := t1 (field_fits Tryz.underlying147 hfit (j := 1) rfl rfl); rw [bytes_FStmt] at this; exact this)⟩) g7
      obtain rfl := (List.cons.inj e7).1
      refine ⟨.mk z0 z1 z2 z3 z4 z5 z6 z7, kFS_mk12 w (.mk z0 z1 z2 z3 z4 z5 z6 z7) l4 r4 l8 g8 l9 g9 l6 r6 l7 r7, fun hfit => ?_⟩
      have := w7 (field_fits Tryz.underlying41 hfit (j := 7) rfl rfl)
      rw [bytes_FArm] at this
      exact ⟨by have := this.1; unfold reachBytes at this; show z7.length ≤ 8796093022208; omega, this.2⟩
/-- A function of a size that a machine can hold. -/
def HoldF (f : FF) : Prop := Small f.body ∧ (f.body.length + 2) * 192 ≤ 140737488355328
end
end Go.Proofs.YticndoihkfbpoaaGreatDoor
