/- A flat program and a script that came in: numbers of 64 bits; how many names, by the bulk. -/
import Derived.Test.YticndoihkfbpoaaGreatDoorXo
import Derived.Test.YticndoihkfbpoaaGreatDoorYs
namespace Go.Proofs.YticndoihkfbpoaaGreatDoor
open Go Go.ChangeShapes Go.Deep Go.RowKit Go.Lib Go.Proofs.YticndoihkfbpoaaGreatDoorW.PrintWords Go.Proofs.YticndoihkfbpoaaGreatDoor.PScope
set_option maxRecDepth 100000
set_option linter.unusedSimpArgs false
set_option linter.unusedVariables false
theorem wf_in {n : Int} (h : (Lit.int .i64 n).wf = true) : InR n := by
 simp only [Lit.wf, Bool.and_eq_true, decide_eq_true_eq] at h
 have h1 : IntKind.i64.min = -9223372036854775808 := rfl
 have h2 : IntKind.i64.max = 9223372036854775807 := rfl
 unfold InR
 omega
theorem open_list3 {H α : Type} {K : Nat → α → Prop} (P Q : α → Prop) (wt : α → Nat) (e : Nat) (els : List (DataW H × List MemPlace)) : ∀ (off : Nat), (∀ i (hi : i < els.length), ∃ z, K (off + i) z ∧ P z ∧ (Fits e (els[i]'hi).1 → Q z) ∧ wt z ≤ Rows.uptoBulk (els[i]'hi).1) →
  ∃ l : List α, l.length = els.length ∧ (∀ i z, l[i]? = some z → K (off + i) z) ∧ (∀ z ∈ l, P z) ∧ ((DataW.weightsAll Tryz.prog e (els.map (·.1))).all (· ≤ reachBytes) = true → ∀ z ∈ l, Q z) ∧ (l.map wt).sum ≤ Rows.uptoBulkAll (els.map (·.1)) := by
 induction els with
 | nil => intro off _; exact ⟨[], rfl, fun i z h => by simp at h, fun z hz => by simp at hz, fun _ z hz => by simp at hz, Nat.zero_le _⟩
 | cons x r ih =>
  intro off h
  obtain ⟨z, hz, hp, hq, hw⟩ := h 0 (by simp)
  obtain ⟨l, h1, h2, h3, h4, h5⟩ := ih (off + 1) (fun i hi => by
   obtain ⟨y, hy, hp, hq, hw⟩ := h (i + 1) (by simp; omega)
   exact ⟨y, by rw [show off + 1 + i = off + (i + 1) by omega]; exact hy, hp, by simpa using hq, by simpa using hw⟩)
  refine ⟨z :: l, by simp [h1], fun i y hy => ?_, fun y hy => ?_, fun hf => ?_, ?_⟩
  ·cases i with
   | zero => simp at hy; subst hy; exact hz
   | succ i => have := h2 i y (by simpa using hy); rw [show off + (i + 1) = off + 1 + i by omega]; exact this
  ·rcases List.mem_cons.1 hy with rfl | hy
   ·exact hp
   ·exact h3 y hy
  ·simp only [List.map_cons, DataW.weightsAll, List.all_append, Bool.and_eq_true] at hf
   intro y hy
   rcases List.mem_cons.1 hy with rfl | hy
   ·exact hq hf.1
   ·exact h4 hf.2 y hy
  ·simp only [List.map_cons, List.sum_cons, Rows.uptoBulkAll]
   have hw' : wt z ≤ Rows.uptoBulk x.1 := hw
   omega
section
variable {H : Type} {enc : TypeId × Value → H} {w : World} {base : Nat} {spare : Nat → Bool} {held : Bool}
theorem open_row3 {α : Type} {d : Kd α} (P Q : α → Prop) (wt : α → Nat) {e t : TypeId} {fuel : Nat} {cs : List Value} {x : DataW H × List MemPlace} (ht : Tryz.prog.underlying t = some (.slice e)) (hsz : Tryz.prog.cellsOf e = d.sz)
  (hel : ∀ n, n < fuel → ∀ cs' y, DataW.trod enc Tryz.prog w base spare held n e cs' = some y → ∃ z, d.K w z cs' ∧ P z ∧ (Fits e y.1 → Q z) ∧ wt z ≤ Rows.uptoBulk y.1)
  (h : DataW.trod enc Tryz.prog w base spare held fuel t cs = some x) : ∃ A l c, cs = [.slice A (List.length l) c] ∧ l.length ≤ c ∧ d.C w A l.length l ∧ (∀ z ∈ l, P z) ∧ (Fits t x.1 → l.length * Tryz.prog.bytesOf e ≤ reachBytes ∧ ∀ z ∈ l, Q z) ∧ (l.map wt).sum ≤ Rows.uptoBulk x.1 := by
 rcases DataW.trod_slice ht h with ⟨rfl, rfl⟩ | ⟨a, len, cap, elems, rest, n, hn, rfl, rfl, hb, hl, hm, hlen, hel', _, _⟩
 ·exact ⟨none, [], 0, rfl, Nat.le_refl _, Kd.C_nil _ _, fun z hz => by simp at hz, fun _ => ⟨by simp, fun z hz => by simp at hz⟩, Nat.zero_le _⟩
 ·obtain ⟨l, h1, h2, h3, h4, h5⟩ := open_list3 (K := fun i z => ∃ cs', d.K w z cs' ∧ ∀ j u, cs'[j]? = some u → w.cell? (a.add (i * d.sz + j)) = some u) P Q wt e elems 0 (fun i hi => by
   have hk := hel' i (by omega)
   rw [List.getElem?_eq_getElem hi] at hk
   obtain ⟨cs', k1, k2⟩ := Option.bind_eq_some_iff.1 hk
   obtain ⟨z, hz, hp, hq, hw⟩ := hel n (by omega) cs' _ k2
   obtain ⟨_, hlc, hcell⟩ := World.cells?_some k1
   refine ⟨z, ⟨cs', hz, fun j u hj => ?_⟩, hp, hq, hw⟩
   have hjl : j < cs'.length := (List.getElem?_eq_some_iff.mp hj).1
   have hjs : j < Tryz.prog.cellsOf e := by rw [hsz]; rw [d.K_len hz] at hjl; exact hjl
   have := hcell j hjs
   rw [Deep.add_add, hsz] at this
   rw [Nat.zero_add, this]
   exact hj)
  refine ⟨some a, l, cap, by rw [h1, hlen], by omega, ⟨rfl, by unfold maxLen at hm; omega, fun _ => ⟨a, rfl, fun j q hj => ?_⟩⟩, h3, fun hf => ?_, ?_⟩
  ·obtain ⟨cs', hK, hc⟩ := h2 j q hj
   refine ⟨cs', d.K_len hK, hK, fun i u hu => ?_⟩
   have := hc i u hu
   rw [Nat.zero_add] at this
   exact this
  ·unfold Fits at hf
   rw [DataW.weights, ht] at hf
   simp only [List.all_cons, List.all_append, Bool.and_eq_true, decide_eq_true_eq] at hf
   refine ⟨?_, h4 hf.2.1⟩
   rw [h1]
   refine Nat.le_trans ?_ hf.1
   rw [List.length_map]
   exact Nat.mul_le_mul_right _ (Nat.le_add_right _ _)
  ·simp only [Rows.uptoBulk]; omega
def one (_ : ByteArray) : Nat := 1
theorem one_sum : ∀ l : List ByteArray, (l.map one).sum = l.length
 | [] => rfl
 | s :: r => by simp only [List.map_cons, List.sum_cons, one_sum r, List.length_cons, one]; omega
theorem nmL_sum : ∀ l : List FS, (l.map nmS).sum = nmL l
 | [] => rfl
 | s :: r => by rw [List.map_cons, List.sum_cons, nmL_sum r, nmL]
theorem nmA_sum : ∀ l : List (Int × List FS), (l.map nmP).sum = nmA l
 | [] => rfl
 | s :: r => by rw [List.map_cons, List.sum_cons, nmA_sum r, nmA]
theorem open_str3 {fuel : Nat} {cs : List Value} {x : DataW H × List MemPlace} (h : DataW.trod enc Tryz.prog w base spare held fuel 9 cs = some x) : ∃ z : ByteArray, Kd.string.K w z cs ∧ True ∧ (Fits 9 x.1 → True) ∧ one z ≤ Rows.uptoBulk x.1 := by
 obtain ⟨z, rfl, rfl, _⟩ := DataW.trod_string Tryz.underlying9 h
 exact ⟨z, rfl, trivial, fun _ => trivial, by simp only [Rows.uptoBulk, one]; omega⟩
theorem open_expr3 (fuel : Nat) : ∀ (cs : List Value) (x : DataW H × List MemPlace), DataW.trod enc Tryz.prog w base spare held fuel 38 cs = some x → ∃ z : S38, k38.K w z cs ∧ ExIn z := by
 induction fuel using Nat.strongRecOn with
 | _ fuel ih =>
  intro cs x h
  obtain ⟨xs, n, hn, rfl, hl, hxl, hf⟩ := DataW.trod_struct Tryz.underlying38 h
  rw [cells_Expr] at hl
  match cs, hl, xs, hxl with
  | [v0, v1, v2, v3, v4], _, [y0, y1, y2, y3, y4], _ =>
   have g0 := hf 0 _ rfl
   have g1 := hf 1 _ rfl
   have g2 := hf 2 _ rfl
   have g3 := hf 3 _ rfl
   have g4 := hf 4 _ rfl
   simp only [cells_int, cells_int64, cells_string, cells_rS, cells_rE, List.drop_zero, List.drop_succ_cons, List.take_succ_cons, List.take_zero, List.getElem?_cons_zero, List.getElem?_cons_succ] at g0 g1 g2 g3 g4
   obtain ⟨z0, e0, _, _⟩ := DataW.trod_int Tryz.underlying3 g0
   obtain rfl := (List.cons.inj e0).1
   obtain ⟨z1, e1, _, _⟩ := DataW.trod_string Tryz.underlying9 g1
   obtain rfl := (List.cons.inj e1).1
   obtain ⟨z2, e2, _, hwf⟩ := DataW.trod_int Tryz.underlying2 g2
   obtain rfl := (List.cons.inj e2).1
   obtain ⟨A3, z3, c3, e3, l3, r3, _⟩ := open_rowS (d := Kd.string) (fun _ => True) Tryz.underlying31 (by exact cells_string) (fun n' _ cs' y hy => open_str hy) g3
   obtain rfl := (List.cons.inj e3).1
   obtain ⟨A4, z4, c4, e4, l4, r4, p4, _⟩ := open_row3 (d := k38) ExIn (fun _ => True) (fun _ => 0) Tryz.underlying36 (by exact cells_Expr) (fun n' hn' cs' y hy => (ih n' (by omega) cs' y hy).imp fun z hz => ⟨hz.1, hz.2, fun _ => trivial, Nat.zero_le _⟩) g4
   obtain rfl := (List.cons.inj e4).1
   exact ⟨⟨z0, z1, z2, z3, z4⟩, k38_mk w ⟨z0, z1, z2, z3, z4⟩ l3 r3 l4 r4, ExIn.mk _ (wf_in hwf) p4⟩
def InS (s : FS) : Prop := ExIn s.e ∧ (∀ x ∈ s.args, ExIn x) ∧ ∀ a ∈ s.arms, FsIn a.2
theorem ins_of {l : List FS} (h : ∀ s ∈ l, InS s) : FsIn l := ⟨l, fun s hs => (h s hs).1, fun s hs => (h s hs).2.1, fun s hs => (h s hs).2.2⟩
theorem open_stmt3 (fuel : Nat) : ∀ (cs : List Value) (x : DataW H × List MemPlace), DataW.trod enc Tryz.prog w base spare held fuel 41 cs = some x → ∃ z : FS, kFS.K w z cs ∧ InS z ∧ (Fits 41 x.1 → HoldS z) ∧ nmS z ≤ Rows.uptoBulk x.1 := by
 induction fuel using Nat.strongRecOn with
 | _ fuel ih =>
  intro cs x h
  obtain ⟨xs, n, hn, rfl, hl, hxl, hf⟩ := DataW.trod_struct Tryz.underlying41 h
  rw [cells_FStmt] at hl
  match cs, hl, xs, hxl with
  | [v0, v1, v2, v3, v4, v5, v6, v7, v8, v9, v10, v11], _, [y0, y1, y2, y3, y4, y5, y6, y7], _ =>
   have g0 := hf 0 _ rfl
   have g1 := hf 1 _ rfl
   have g2 := hf 2 _ rfl
   have g3 := hf 3 _ rfl
   have g4 := hf 4 _ rfl
   have g5 : DataW.trod enc Tryz.prog w base spare held n 38 ((List.drop 5 [v0, v1, v2, v3, v4, v5, v6, v7, v8, v9, v10, v11]).take (Tryz.prog.cellsOf 38)) = some y5 := hf 5 _ rfl
   have g6 := hf 6 _ rfl
   have g7 := hf 7 _ rfl
   simp only [cells_int, cells_string, cells_Expr, cells_rS, cells_rE, cells_rA, List.drop_zero, List.drop_succ_cons, List.take_succ_cons, List.take_zero, List.getElem?_cons_zero, List.getElem?_cons_succ] at g0 g1 g2 g3 g4 g5 g6 g7
   obtain ⟨z0, e0, _, _⟩ := DataW.trod_int Tryz.underlying3 g0
   obtain rfl := (List.cons.inj e0).1
   obtain ⟨z1, e1, _, _⟩ := DataW.trod_string Tryz.underlying9 g1
   obtain rfl := (List.cons.inj e1).1
   obtain ⟨z2, e2, _, _⟩ := DataW.trod_int Tryz.underlying3 g2
   obtain rfl := (List.cons.inj e2).1
   obtain ⟨z3, e3, _, _⟩ := DataW.trod_int Tryz.underlying3 g3
   obtain rfl := (List.cons.inj e3).1
   obtain ⟨A4, z4, c4, e4, l4, r4, _, _, b4⟩ := open_row3 (d := Kd.string) (fun _ => True) (fun _ => True) one Tryz.underlying31 (by exact cells_string) (fun n' _ cs' y hy => open_str3 hy) g4
   obtain rfl := (List.cons.inj e4).1
   obtain ⟨z5, K5, p5⟩ := open_expr3 n _ _ g5
   obtain ⟨A8, c8, A9, c9, e5, l8, g8, l9, g9⟩ := k38_open K5
   simp only [List.cons.injEq, and_true] at e5
   obtain ⟨rfl, rfl, rfl, rfl, rfl⟩ := e5
   obtain ⟨A6, z6, c6, e6, l6, r6, p6, _⟩ := open_row3 (d := kE) ExIn (fun _ => True) (fun _ => 0) Tryz.underlying36 (by exact cells_Expr) (fun n' _ cs' y hy => (open_expr3 n' cs' y hy).imp fun z hz => ⟨hz.1, hz.2, fun _ => trivial, Nat.zero_le _⟩) g6
   obtain rfl := (List.cons.inj e6).1
   obtain ⟨A7, z7, c7, e7, l7, r7, p7, w7, b7⟩ := open_row3 (d := kFA) (fun a : Int × List FS => FsIn a.2) (fun a : Int × List FS => Small a.2) nmP Tryz.underlying39 (by exact cells_FArm) (fun n' hn' cs' y hy => by
    obtain ⟨xs', m, hm, rfl, hl', hxl', hf'⟩ := DataW.trod_struct Tryz.underlying147 hy
    rw [cells_FArm] at hl'
    match cs', hl', xs', hxl' with
    | [u0, u1], _, [q0, q1], _ =>
     have k0 := hf' 0 _ rfl
     have k1 := hf' 1 _ rfl
     simp only [cells_int64, cells_rF, List.drop_zero, List.drop_succ_cons, List.take_succ_cons, List.take_zero, List.getElem?_cons_zero, List.getElem?_cons_succ] at k0 k1
     obtain ⟨a0, f0, _, _⟩ := DataW.trod_int Tryz.underlying2 k0
     obtain rfl := (List.cons.inj f0).1
     obtain ⟨B1, b1, d1, f1, m1, s1, i1, t1, bb1⟩ := open_row3 (d := kFS) InS HoldS nmS Tryz.underlying30 (by exact cells_FStmt) (fun n'' hn'' cs'' y'' hy'' => ih n'' (by omega) cs'' y'' hy'') k1
     obtain rfl := (List.cons.inj f1).1
     exact ⟨(a0, b1), kFA_mk2 w (a0, b1) m1 s1, ins_of i1, fun hfit => small_of (by have := t1 (field_fits Tryz.underlying147 hfit (j := 1) rfl rfl); rw [bytes_FStmt] at this; exact this), by
      rw [nmP_eq, ← nmL_sum]
      simp only [List.map_cons, List.map_nil, Rows.uptoBulk, Rows.uptoBulkAll] at bb1 ⊢
      omega⟩) g7
   obtain rfl := (List.cons.inj e7).1
   refine ⟨.mk z0 z1 z2 z3 z4 z5 z6 z7, kFS_mk12 w (.mk z0 z1 z2 z3 z4 z5 z6 z7) l4 r4 l8 g8 l9 g9 l6 r6 l7 r7, ⟨p5, p6, p7⟩, fun hfit => ?_, ?_⟩
   ·have := w7 (field_fits Tryz.underlying41 hfit (j := 7) rfl rfl)
    rw [bytes_FArm] at this
    exact ⟨by have := this.1; unfold reachBytes at this; show z7.length ≤ 8796093022208; omega, this.2⟩
   ·rw [nmS_eq]
    rw [one_sum] at b4
    rw [nmA_sum] at b7
    show 1 + z4.length + nmA z7 ≤ _
    simp only [List.map_cons, List.map_nil, Rows.uptoBulk, Rows.uptoBulkAll]
    omega
def InF (f : FF) : Prop := FsIn f.body
def wF (f : FF) : Nat := f.params.length + nmL f.body
theorem open_func3 (fuel : Nat) : ∀ (cs : List Value) (x : DataW H × List MemPlace), DataW.trod enc Tryz.prog w base spare held fuel 35 cs = some x → ∃ z : FF, kFF.K w z cs ∧ InF z ∧ (Fits 35 x.1 → HoldG z) ∧ wF z ≤ Rows.uptoBulk x.1 := by
 intro cs x h
 obtain ⟨xs, n, hn, rfl, hl, hxl, hf⟩ := DataW.trod_struct Tryz.underlying35 h
 rw [cells_Func] at hl
 match cs, hl, xs, hxl with
 | [v0, v1, v2, v3, v4, v5], _, [y0, y1, y2, y3, y4, y5], _ =>
  have g0 := hf 0 _ rfl
  have g1 := hf 1 _ rfl
  have g2 := hf 2 _ rfl
  have g3 := hf 3 _ rfl
  have g4 := hf 4 _ rfl
  have g5 := hf 5 _ rfl
  simp only [cells_int, cells_rS, cells_rI, cells_rP, cells_rF, List.drop_zero, List.drop_succ_cons, List.take_succ_cons, List.take_zero, List.getElem?_cons_zero, List.getElem?_cons_succ] at g0 g1 g2 g3 g4 g5
  obtain ⟨A0, z0, c0, e0, l0, r0, _, w0, b0⟩ := open_row3 (d := Kd.string) (fun _ => True) (fun _ => True) one Tryz.underlying31 (by exact cells_string) (fun n' _ cs' y hy => open_str3 hy) g0
  obtain rfl := (List.cons.inj e0).1
  obtain ⟨A1, z1, c1, e1, l1, r1, w1⟩ := open_rowS (d := Kd.string) (fun _ => True) Tryz.underlying31 (by exact cells_string) (fun n' _ cs' y hy => open_str hy) g1
  obtain rfl := (List.cons.inj e1).1
  obtain ⟨z2, e2, _, _⟩ := DataW.trod_int Tryz.underlying3 g2
  obtain rfl := (List.cons.inj e2).1
  obtain ⟨A3, z3, c3, e3, l3, r3, _⟩ := open_rowS (d := Kd.int .i64) (fun _ => True) Tryz.underlying32 (by exact cells_int) (fun n' _ cs' y hy => open_num hy) g3
  obtain rfl := (List.cons.inj e3).1
  obtain ⟨A4, z4, c4, e4, l4, r4, _⟩ := open_rowS (d := kPt) (fun _ => True) Tryz.underlying33 (by exact cells_Part) (fun n' _ cs' y hy => open_partF n' cs' y hy) g4
  obtain rfl := (List.cons.inj e4).1
  obtain ⟨A5, z5, c5, e5, l5, r5, p5, w5, b5⟩ := open_row3 (d := kFS) InS HoldS nmS Tryz.underlying30 (by exact cells_FStmt) (fun n' _ cs' y hy => open_stmt3 n' cs' y hy) g5
  obtain rfl := (List.cons.inj e5).1
  refine ⟨⟨z0, z1, z2, z3, z4, z5⟩, kFF_mk6 w ⟨z0, z1, z2, z3, z4, z5⟩ l0 r0 l1 r1 l3 r3 l4 r4 l5 r5, ins_of p5, fun hfit => ?_, ?_⟩
  ·have q0 := w0 (field_fits Tryz.underlying35 hfit (j := 0) rfl rfl)
   have q1 := w1 (field_fits Tryz.underlying35 hfit (j := 1) rfl rfl)
   rw [bytes_string] at q0 q1
   have := w5 (field_fits Tryz.underlying35 hfit (j := 5) rfl rfl)
   rw [bytes_FStmt] at this
   exact ⟨⟨small_of this, by have := this.1; unfold reachBytes at this; show (z5.length + 2) * 192 ≤ 140737488355328; omega⟩, by have := q0.1; unfold reachBytes at this; show z0.length ≤ 8796093022208; omega, by have := q1.1; unfold reachBytes at this; show z1.length ≤ 8796093022208; omega⟩
  ·rw [one_sum] at b0
   rw [nmL_sum] at b5
   show z0.length + nmL z5 ≤ _
   simp only [List.map_cons, List.map_nil, Rows.uptoBulk, Rows.uptoBulkAll]
   omega
theorem sum_mem : ∀ {l : List FF} {f : FF}, f ∈ l → wF f ≤ (l.map wF).sum
 | [], f, h => by simp at h
 | x :: r, f, h => by
  rw [List.map_cons, List.sum_cons]
  rcases List.mem_cons.1 h with rfl | h
  ·omega
  ·have := sum_mem h; omega
theorem open_flat3 {fuel : Nat} {cs : List Value} {x : DataW H × List MemPlace} (h : DataW.trod enc Tryz.prog w base spare held fuel 24 cs = some x) :
  ∃ (A : Option Addr) (l : List FF) (c : Nat), cs = [.slice A l.length c] ∧ l.length ≤ c ∧ kFF.C w A l.length l ∧ (Fits 24 x.1 → FlatSmall l ∧ (∀ f ∈ l, f.params.length ≤ 8796093022208) ∧ ∀ f ∈ l, f.results.length ≤ 8796093022208) ∧ (Rows.uptoBulk x.1 ≤ 1048576 → FlatIn l) := by
 obtain ⟨xs, n, hn, rfl, hl, hxl, hf⟩ := DataW.trod_struct Tryz.underlying24 h
 have cells_Flat : Tryz.prog.cellsOf 24 = 1 := by kernel_rfl
 rw [cells_Flat] at hl
 match cs, hl, xs, hxl with
 | [v0], _, [y0], _ =>
  have g0 := hf 0 _ rfl
  simp only [cells_rU, List.drop_zero, List.drop_succ_cons, List.take_succ_cons, List.take_zero, List.getElem?_cons_zero, List.getElem?_cons_succ] at g0
  obtain ⟨A0, z0, c0, e0, l0, r0, p0, w0, b0⟩ := open_row3 (d := kFF) InF HoldG wF Tryz.underlying22 (by exact cells_Func) (fun n' _ cs' y hy => open_func3 n' cs' y hy) g0
  obtain rfl := (List.cons.inj e0).1
  refine ⟨A0, z0, c0, rfl, l0, r0, fun hfit => ?_, fun hb => ?_⟩
  ·have := w0 (field_fits Tryz.underlying24 hfit (j := 0) rfl rfl)
   rw [bytes_Func] at this
   exact ⟨⟨by have := this.1; unfold reachBytes at this; omega, fun f hf => (this.2 f hf).1.1, fun f hf => by have := (this.2 f hf).1.2; omega⟩, fun f hf => (this.2 f hf).2.1, fun f hf => (this.2 f hf).2.2⟩
  ·simp only [List.map_cons, List.map_nil, Rows.uptoBulk, Rows.uptoBulkAll] at hb
   exact ⟨p0, fun f hf => by have h1 : f.params.length + nmL f.body ≤ (z0.map wF).sum := sum_mem hf; omega⟩
theorem open_script3 {fuel : Nat} {cs : List Value} {x : DataW H × List MemPlace} (h : DataW.trod enc Tryz.prog w base spare held fuel 42 cs = some x) :
  ∃ (A : Option Addr) (l : List (List Int)) (c : Nat), cs = [.slice A l.length c] ∧ l.length ≤ c ∧ Kd.C (Kd.slice 2 (Kd.int .i64)) w A l.length l ∧ ∀ r ∈ l, ∀ x ∈ r, InR x := by
 obtain ⟨A, l, c, e, hl, hC, hp, _⟩ := open_row3 (d := Kd.slice 2 (Kd.int .i64)) (fun r => ∀ x ∈ r, InR x) (fun _ => True) (fun _ => 0) Tryz.underlying42 (by exact cells_rL) (fun n' _ cs' y hy => by
  obtain ⟨A', l', c', e', hl', hC', hp', _⟩ := open_row3 (d := Kd.int .i64) InR (fun _ => True) (fun _ => 0) Tryz.underlying49 (by exact cells_int64) (fun n'' _ cs'' y'' hy'' => by
   obtain ⟨z, ez, _, hwf⟩ := DataW.trod_int Tryz.underlying2 hy''
   exact ⟨z, ez, wf_in hwf, fun _ => trivial, Nat.zero_le _⟩) hy
  exact ⟨l', ⟨A', c', e', hl', hC'⟩, hp', fun _ => trivial, Nat.zero_le _⟩) h
 exact ⟨A, l, c, e, hl, hC, hp⟩
end
end Go.Proofs.YticndoihkfbpoaaGreatDoor
