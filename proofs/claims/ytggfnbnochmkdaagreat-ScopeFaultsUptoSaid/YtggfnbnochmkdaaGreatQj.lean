/- JOINED of 3 texts: A program that came in: its enums, its nodes, how much they hold, and that its numbers are numbers. The reference's Right is the checker's. Plain laws of scope's answer: of a program without a fault names are unlike, so that what stands there twice is a fault; how much a program holds. -/
import Derived.Test.YtggfnbnochmkdaaGreatQh
import Derived.Test.YtggfnbnochmkdaaGreatSp
namespace Go.Proofs.YtggfnbnochmkdaaGreat
open Go Go.ChangeShapes Go.Deep Go.RowKit Go.Lib Go.Proofs.YtggfnbnochmkdaaGreatW.PrintWords Go.Proofs.YtggfnbnochmkdaaGreat.PScope
set_option maxRecDepth 100000
set_option linter.unusedSimpArgs false
set_option linter.unusedVariables false
def InI (n : Int) : Prop := -9223372036854775808 ≤ n ∧ n ≤ 9223372036854775807
mutual
def qEx : S42 → Prop
 | ⟨_, _, c, _, k⟩ => InI c ∧ qExs k
def qExs : List S42 → Prop
 | [] => True
 | k :: r => qEx k ∧ qExs r
end
theorem qEx_eq (x : S42) : qEx x = (InI x.f2 ∧ qExs x.f4) := by cases x; rw [qEx]
theorem qExs_all : ∀ l : List S42, qExs l ↔ ∀ z ∈ l, qEx z
 | [] => by rw [qExs]; simp
 | k :: r => by rw [qExs, qExs_all r]; simp
def qS (_ : ByteArray) : Prop := True
def qEq (q : S44) : Prop := qEx q.f1
def qWay (y : S93) : Prop := qEx y.f0
def qSt (s : S65) : Prop := (∀ q ∈ s.f1, qEq q) ∧ ∀ y ∈ s.f2, qWay y
def qIt (x : S47) : Prop := qEq x.f0 ∧ ∀ s ∈ x.f1, qSt s
def qEn (_ : S38) : Prop := True
def qNd (n : S35) : Prop := ∀ x ∈ n.f4, qIt x
def vS (_ : ByteArray) : Nat := 1
def vEx (_ : S42) : Nat := 1
def vEq (q : S44) : Nat := 1 + (q.f0.map vS).sum
def vWay (_ : S93) : Nat := 1
def vSt (s : S65) : Nat := 1 + (s.f1.map vEq).sum + (s.f2.map vWay).sum
def vIt (x : S47) : Nat := 1 + vEq x.f0 + (x.f1.map vSt).sum
def vEn (t : S38) : Nat := 1 + (t.f1.map vS).sum
def vNd (n : S35) : Nat := 1 + (n.f1.map vS).sum + (n.f2.map vS).sum + (n.f3.map vS).sum + (n.f4.map vIt).sum
theorem zopen_list {H α : Type} {P : Nat → α → Prop} (Q : α → Prop) (wt : α → Nat) (els : List (DataW H × List MemPlace)) : ∀ (off : Nat), (∀ i (hi : i < els.length), ∃ z, P (off + i) z ∧ Q z ∧ wt z ≤ Rows.uptoBulk (els[i]'hi).1) →
   ∃ l : List α, l.length = els.length ∧ (∀ i z, l[i]? = some z → P (off + i) z) ∧ (∀ z ∈ l, Q z) ∧ (l.map wt).sum ≤ Rows.uptoBulkAll (els.map (·.1)) := by
 induction els with
 | nil => intro off _; exact ⟨[], rfl, fun i z h => by simp at h, fun z h => (by cases h), Nat.zero_le _⟩
 | cons e r ih =>
   intro off h
   obtain ⟨z, hz, hq, hw⟩ := h 0 (by simp)
   obtain ⟨l, h1, h2, hqs, h3⟩ := ih (off + 1) (fun i hi => by
     obtain ⟨y, hy, hq, hw⟩ := h (i + 1) (by simp; omega)
     exact ⟨y, by rw [show off + 1 + i = off + (i + 1) by omega]; exact hy, hq, by simpa using hw⟩)
   refine ⟨z :: l, by simp [h1], fun i y hy => ?_, fun y hy => ?_, ?_⟩
   · cases i with
     | zero => simp at hy; subst hy; exact hz
     | succ i => have := h2 i y (by simpa using hy); rw [show off + (i + 1) = off + 1 + i by omega]; exact this
   · rcases List.mem_cons.1 hy with rfl | h
     · exact hq
     · exact hqs y h
   · simp only [List.map_cons, List.sum_cons, Rows.uptoBulkAll]
     have hw' : wt z ≤ Rows.uptoBulk e.1 := hw
     omega
section
variable {H : Type} {enc : TypeId × Value → H} {w : World} {base : Nat} {spare : Nat → Bool} {held : Bool}
theorem zopen_row {α : Type} {d : Kd α} (Q : α → Prop) (wt : α → Nat) {e t : TypeId} {fuel : Nat} {cs : List Value} {x : DataW H × List MemPlace} (ht : Tryz.prog.underlying t = some (.slice e)) (hsz : Tryz.prog.cellsOf e = d.sz)
   (hel : ∀ n, n < fuel → ∀ cs' y, DataW.trod enc Tryz.prog w base spare held n e cs' = some y → ∃ z, d.K w z cs' ∧ Q z ∧ wt z ≤ Rows.uptoBulk y.1)
   (h : DataW.trod enc Tryz.prog w base spare held fuel t cs = some x) : ∃ A l c, cs = [.slice A (List.length l) c] ∧ l.length ≤ c ∧ d.C w A l.length l ∧ (∀ z ∈ l, Q z) ∧ (l.map wt).sum + 1 ≤ Rows.uptoBulk x.1 := by
 rcases DataW.trod_slice ht h with ⟨rfl, rfl⟩ | ⟨a, len, cap, elems, rest, n, hn, rfl, rfl, hb, hl, hm, hlen, hel', _, _⟩
 · exact ⟨none, [], 0, rfl, Nat.le_refl _, Kd.C_nil _ _, fun z h => (by cases h), by simp [Rows.uptoBulk]⟩
 · obtain ⟨l, h1, h2, hq, h3⟩ := zopen_list (P := fun i z => ∃ cs', d.K w z cs' ∧ ∀ j u, cs'[j]? = some u → w.cell? (a.add (i * d.sz + j)) = some u) Q wt elems 0 (fun i hi => by
     have hk := hel' i (by omega)
     rw [List.getElem?_eq_getElem hi] at hk
     obtain ⟨cs', k1, k2⟩ := Option.bind_eq_some_iff.1 hk
     obtain ⟨z, hz, hq, hw⟩ := hel n (by omega) cs' _ k2
     obtain ⟨_, hlc, hcell⟩ := World.cells?_some k1
     refine ⟨z, ⟨cs', hz, fun j u hj => ?_⟩, hq, hw⟩
     have hjl : j < cs'.length := (List.getElem?_eq_some_iff.mp hj).1
     have hjs : j < Tryz.prog.cellsOf e := by rw [hsz]; rw [d.K_len hz] at hjl; exact hjl
     have := hcell j hjs
     rw [Deep.add_add, hsz] at this
     rw [Nat.zero_add, this]
     exact hj)
   refine ⟨some a, l, cap, by rw [h1, hlen], by omega, ⟨rfl, by unfold maxLen at hm; omega, fun _ => ⟨a, rfl, fun j q hj => ?_⟩⟩, hq, ?_⟩
   · obtain ⟨cs', hK, hc⟩ := h2 j q hj
     refine ⟨cs', d.K_len hK, hK, fun i u hu => ?_⟩
     have := hc i u hu
     rw [Nat.zero_add] at this
     exact this
   · simp only [Rows.uptoBulk]; omega
theorem zopen_string {fuel : Nat} {cs : List Value} {x : DataW H × List MemPlace} (h : DataW.trod enc Tryz.prog w base spare held fuel 9 cs = some x) : ∃ z : ByteArray, Kd.string.K w z cs ∧ qS z ∧ vS z ≤ Rows.uptoBulk x.1 := by
 obtain ⟨z, rfl, rfl, _⟩ := DataW.trod_string Tryz.underlying9 h
 exact ⟨z, rfl, trivial, by simp only [Rows.uptoBulk, vS]; omega⟩
theorem zopen_expr (fuel : Nat) : ∀ (cs : List Value) (x : DataW H × List MemPlace), DataW.trod enc Tryz.prog w base spare held fuel 42 cs = some x → ∃ z : S42, k42.K w z cs ∧ qEx z ∧ vEx z ≤ Rows.uptoBulk x.1 := by
 induction fuel using Nat.strongRecOn with
 | _ fuel ih =>
   intro cs x h
   obtain ⟨xs, n, hn, rfl, hl, hxl, hf⟩ := DataW.trod_struct Tryz.underlying42 h
   rw [cells_Expr] at hl
   match cs, hl, xs, hxl with
   | [v0, v1, v2, v3, v4], _, [y0, y1, y2, y3, y4], _ =>
     have g0 : DataW.trod enc Tryz.prog w base spare held n 3 ((List.drop 0 [v0, v1, v2, v3, v4]).take (Tryz.prog.cellsOf 3)) = some y0 := hf 0 _ rfl
     have g1 : DataW.trod enc Tryz.prog w base spare held n 9 ((List.drop 1 [v0, v1, v2, v3, v4]).take (Tryz.prog.cellsOf 9)) = some y1 := hf 1 _ rfl
     have g2 : DataW.trod enc Tryz.prog w base spare held n 2 ((List.drop 2 [v0, v1, v2, v3, v4]).take (Tryz.prog.cellsOf 2)) = some y2 := hf 2 _ rfl
     have g3 : DataW.trod enc Tryz.prog w base spare held n 32 ((List.drop 3 [v0, v1, v2, v3, v4]).take (Tryz.prog.cellsOf 32)) = some y3 := hf 3 _ rfl
     have g4 : DataW.trod enc Tryz.prog w base spare held n 40 ((List.drop 4 [v0, v1, v2, v3, v4]).take (Tryz.prog.cellsOf 40)) = some y4 := hf 4 _ rfl
     simp only [cells_int, cells_int64, cells_string, cells_Expr, cells_Eq, cells_Way, cells_State, cells_Item, cells_Enum, cells_Node, cells_row0, cells_row1, cells_row2, cells_row3, cells_row4, cells_row5, cells_row6, cells_row7, List.drop_zero, List.drop_succ_cons, List.take_succ_cons, List.take_zero, List.getElem?_cons_zero, List.getElem?_cons_succ] at g0 g1 g2 g3 g4
     obtain ⟨z0, e0, b0, n0⟩ := DataW.trod_int Tryz.underlying3 g0
     obtain rfl := (List.cons.inj e0).1
     obtain ⟨z1, e1, b1, _⟩ := DataW.trod_string Tryz.underlying9 g1
     obtain rfl := (List.cons.inj e1).1
     obtain ⟨z2, e2, rfl, n2⟩ := DataW.trod_int Tryz.underlying2 g2
     obtain rfl := (List.cons.inj e2).1
     obtain ⟨A3, z3, c3, e3, l3, r3, q3, w3⟩ := zopen_row (d := Kd.string) qS vS Tryz.underlying32 (by exact cells_string) (fun n' _ cs' y hy => zopen_string hy) g3
     obtain rfl := (List.cons.inj e3).1
     obtain ⟨A4, z4, c4, e4, l4, r4, q4, w4⟩ := zopen_row (d := k42) qEx vEx Tryz.underlying40 (by exact cells_Expr) (fun n' hn' cs' y hy => ih n' (by omega) cs' y hy) g4
     obtain rfl := (List.cons.inj e4).1
     refine ⟨⟨z0, z1, z2, z3, z4⟩, k42_mk w ⟨z0, z1, z2, z3, z4⟩ l3 r3 l4 r4, by rw [qEx_eq]; exact ⟨by rw [Lit.wf, show IntKind.i64.min = -9223372036854775808 from rfl, show IntKind.i64.max = 9223372036854775807 from rfl, Bool.and_eq_true, decide_eq_true_eq, decide_eq_true_eq] at n2; exact ⟨n2.1, n2.2⟩, (qExs_all _).2 q4⟩, ?_⟩
     simp only [List.map_cons, List.map_nil, Rows.uptoBulk, Rows.uptoBulkAll, vEx]
     omega
theorem zopen_eq (fuel : Nat) : ∀ (cs : List Value) (x : DataW H × List MemPlace), DataW.trod enc Tryz.prog w base spare held fuel 44 cs = some x → ∃ z : S44, k44.K w z cs ∧ qEq z ∧ vEq z ≤ Rows.uptoBulk x.1 := by
 intro cs x h
 obtain ⟨xs, n, hn, rfl, hl, hxl, hf⟩ := DataW.trod_struct Tryz.underlying44 h
 rw [cells_Eq] at hl
 match cs, hl, xs, hxl with
 | [v0, v1, v2, v3, v4, v5], _, [y0, y1], _ =>
   have g0 : DataW.trod enc Tryz.prog w base spare held n 32 ((List.drop 0 [v0, v1, v2, v3, v4, v5]).take (Tryz.prog.cellsOf 32)) = some y0 := hf 0 _ rfl
   have g1 : DataW.trod enc Tryz.prog w base spare held n 42 ((List.drop 1 [v0, v1, v2, v3, v4, v5]).take (Tryz.prog.cellsOf 42)) = some y1 := hf 1 _ rfl
   simp only [cells_int, cells_int64, cells_string, cells_Expr, cells_Eq, cells_Way, cells_State, cells_Item, cells_Enum, cells_Node, cells_row0, cells_row1, cells_row2, cells_row3, cells_row4, cells_row5, cells_row6, cells_row7, List.drop_zero, List.drop_succ_cons, List.take_succ_cons, List.take_zero, List.getElem?_cons_zero, List.getElem?_cons_succ] at g0 g1
   obtain ⟨A0, z0, c0, e0, l0, r0, q0, w0⟩ := zopen_row (d := Kd.string) qS vS Tryz.underlying32 (by exact cells_string) (fun n' _ cs' y hy => zopen_string hy) g0
   obtain rfl := (List.cons.inj e0).1
   obtain ⟨z1, K1, q1, w1⟩ := zopen_expr n _ _ g1
   obtain ⟨p1A3, p1c3, p1A4, p1c4, e1, p1l3, p1g3, p1l4, p1g4⟩ := k42_open K1
   simp only [List.cons.injEq, and_true] at e1
   obtain ⟨rfl, rfl, rfl, rfl, rfl⟩ := e1
   refine ⟨⟨z0, z1⟩, k44_mk w ⟨z0, z1⟩ l0 r0 p1l3 p1g3 p1l4 p1g4, q1, ?_⟩
   simp only [List.map_cons, List.map_nil, Rows.uptoBulk, Rows.uptoBulkAll, vEq]
   omega
theorem zopen_way (fuel : Nat) : ∀ (cs : List Value) (x : DataW H × List MemPlace), DataW.trod enc Tryz.prog w base spare held fuel 93 cs = some x → ∃ z : S93, k93.K w z cs ∧ qWay z ∧ vWay z ≤ Rows.uptoBulk x.1 := by
 intro cs x h
 obtain ⟨xs, n, hn, rfl, hl, hxl, hf⟩ := DataW.trod_struct Tryz.underlying93 h
 rw [cells_Way] at hl
 match cs, hl, xs, hxl with
 | [v0, v1, v2, v3, v4, v5], _, [y0, y1], _ =>
   have g0 : DataW.trod enc Tryz.prog w base spare held n 42 ((List.drop 0 [v0, v1, v2, v3, v4, v5]).take (Tryz.prog.cellsOf 42)) = some y0 := hf 0 _ rfl
   have g1 : DataW.trod enc Tryz.prog w base spare held n 9 ((List.drop 5 [v0, v1, v2, v3, v4, v5]).take (Tryz.prog.cellsOf 9)) = some y1 := hf 1 _ rfl
   simp only [cells_int, cells_int64, cells_string, cells_Expr, cells_Eq, cells_Way, cells_State, cells_Item, cells_Enum, cells_Node, cells_row0, cells_row1, cells_row2, cells_row3, cells_row4, cells_row5, cells_row6, cells_row7, List.drop_zero, List.drop_succ_cons, List.take_succ_cons, List.take_zero, List.getElem?_cons_zero, List.getElem?_cons_succ] at g0 g1
   obtain ⟨z0, K0, q0, w0⟩ := zopen_expr n _ _ g0
   obtain ⟨p0A3, p0c3, p0A4, p0c4, e0, p0l3, p0g3, p0l4, p0g4⟩ := k42_open K0
   simp only [List.cons.injEq, and_true] at e0
   obtain ⟨rfl, rfl, rfl, rfl, rfl⟩ := e0
   obtain ⟨z1, e1, b1, _⟩ := DataW.trod_string Tryz.underlying9 g1
   obtain rfl := (List.cons.inj e1).1
   refine ⟨⟨z0, z1⟩, k93_mk w ⟨z0, z1⟩ p0l3 p0g3 p0l4 p0g4, q0, ?_⟩
   simp only [List.map_cons, List.map_nil, Rows.uptoBulk, Rows.uptoBulkAll, vWay]
   omega
theorem zopen_state (fuel : Nat) : ∀ (cs : List Value) (x : DataW H × List MemPlace), DataW.trod enc Tryz.prog w base spare held fuel 65 cs = some x → ∃ z : S65, k65.K w z cs ∧ qSt z ∧ vSt z ≤ Rows.uptoBulk x.1 := by
 intro cs x h
 obtain ⟨xs, n, hn, rfl, hl, hxl, hf⟩ := DataW.trod_struct Tryz.underlying65 h
 rw [cells_State] at hl
 match cs, hl, xs, hxl with
 | [v0, v1, v2], _, [y0, y1, y2], _ =>
   have g0 : DataW.trod enc Tryz.prog w base spare held n 9 ((List.drop 0 [v0, v1, v2]).take (Tryz.prog.cellsOf 9)) = some y0 := hf 0 _ rfl
   have g1 : DataW.trod enc Tryz.prog w base spare held n 62 ((List.drop 1 [v0, v1, v2]).take (Tryz.prog.cellsOf 62)) = some y1 := hf 1 _ rfl
   have g2 : DataW.trod enc Tryz.prog w base spare held n 63 ((List.drop 2 [v0, v1, v2]).take (Tryz.prog.cellsOf 63)) = some y2 := hf 2 _ rfl
   simp only [cells_int, cells_int64, cells_string, cells_Expr, cells_Eq, cells_Way, cells_State, cells_Item, cells_Enum, cells_Node, cells_row0, cells_row1, cells_row2, cells_row3, cells_row4, cells_row5, cells_row6, cells_row7, List.drop_zero, List.drop_succ_cons, List.take_succ_cons, List.take_zero, List.getElem?_cons_zero, List.getElem?_cons_succ] at g0 g1 g2
   obtain ⟨z0, e0, b0, _⟩ := DataW.trod_string Tryz.underlying9 g0
   obtain rfl := (List.cons.inj e0).1
   obtain ⟨A1, z1, c1, e1, l1, r1, q1, w1⟩ := zopen_row (d := k44) qEq vEq Tryz.underlying62 (by exact cells_Eq) (fun n' _ cs' y hy => zopen_eq n' cs' y hy) g1
   obtain rfl := (List.cons.inj e1).1
   obtain ⟨A2, z2, c2, e2, l2, r2, q2, w2⟩ := zopen_row (d := k93) qWay vWay Tryz.underlying63 (by exact cells_Way) (fun n' _ cs' y hy => zopen_way n' cs' y hy) g2
   obtain rfl := (List.cons.inj e2).1
   refine ⟨⟨z0, z1, z2⟩, k65_mk w ⟨z0, z1, z2⟩ l1 r1 l2 r2, ⟨q1, q2⟩, ?_⟩
   simp only [List.map_cons, List.map_nil, Rows.uptoBulk, Rows.uptoBulkAll, vSt]
   omega
theorem zopen_item (fuel : Nat) : ∀ (cs : List Value) (x : DataW H × List MemPlace), DataW.trod enc Tryz.prog w base spare held fuel 47 cs = some x → ∃ z : S47, k47.K w z cs ∧ qIt z ∧ vIt z ≤ Rows.uptoBulk x.1 := by
 intro cs x h
 obtain ⟨xs, n, hn, rfl, hl, hxl, hf⟩ := DataW.trod_struct Tryz.underlying47 h
 rw [cells_Item] at hl
 match cs, hl, xs, hxl with
 | [v0, v1, v2, v3, v4, v5, v6], _, [y0, y1], _ =>
   have g0 : DataW.trod enc Tryz.prog w base spare held n 44 ((List.drop 0 [v0, v1, v2, v3, v4, v5, v6]).take (Tryz.prog.cellsOf 44)) = some y0 := hf 0 _ rfl
   have g1 : DataW.trod enc Tryz.prog w base spare held n 45 ((List.drop 6 [v0, v1, v2, v3, v4, v5, v6]).take (Tryz.prog.cellsOf 45)) = some y1 := hf 1 _ rfl
   simp only [cells_int, cells_int64, cells_string, cells_Expr, cells_Eq, cells_Way, cells_State, cells_Item, cells_Enum, cells_Node, cells_row0, cells_row1, cells_row2, cells_row3, cells_row4, cells_row5, cells_row6, cells_row7, List.drop_zero, List.drop_succ_cons, List.take_succ_cons, List.take_zero, List.getElem?_cons_zero, List.getElem?_cons_succ] at g0 g1
   obtain ⟨z0, K0, q0, w0⟩ := zopen_eq n _ _ g0
   obtain ⟨p0A0, p0c0, p0A4, p0c4, p0A5, p0c5, e0, p0l0, p0g0, p0l4, p0g4, p0l5, p0g5⟩ := k44_open K0
   simp only [List.cons.injEq, and_true] at e0
   obtain ⟨rfl, rfl, rfl, rfl, rfl, rfl⟩ := e0
   obtain ⟨A1, z1, c1, e1, l1, r1, q1, w1⟩ := zopen_row (d := k65) qSt vSt Tryz.underlying45 (by exact cells_State) (fun n' _ cs' y hy => zopen_state n' cs' y hy) g1
   obtain rfl := (List.cons.inj e1).1
   refine ⟨⟨z0, z1⟩, k47_mk w ⟨z0, z1⟩ p0l0 p0g0 p0l4 p0g4 p0l5 p0g5 l1 r1, ⟨q0, q1⟩, ?_⟩
   simp only [List.map_cons, List.map_nil, Rows.uptoBulk, Rows.uptoBulkAll, vIt]
   omega
theorem zopen_enum (fuel : Nat) : ∀ (cs : List Value) (x : DataW H × List MemPlace), DataW.trod enc Tryz.prog w base spare held fuel 38 cs = some x → ∃ z : S38, k38.K w z cs ∧ qEn z ∧ vEn z ≤ Rows.uptoBulk x.1 := by
 intro cs x h
 obtain ⟨xs, n, hn, rfl, hl, hxl, hf⟩ := DataW.trod_struct Tryz.underlying38 h
 rw [cells_Enum] at hl
 match cs, hl, xs, hxl with
 | [v0, v1], _, [y0, y1], _ =>
   have g0 : DataW.trod enc Tryz.prog w base spare held n 9 ((List.drop 0 [v0, v1]).take (Tryz.prog.cellsOf 9)) = some y0 := hf 0 _ rfl
   have g1 : DataW.trod enc Tryz.prog w base spare held n 32 ((List.drop 1 [v0, v1]).take (Tryz.prog.cellsOf 32)) = some y1 := hf 1 _ rfl
   simp only [cells_int, cells_int64, cells_string, cells_Expr, cells_Eq, cells_Way, cells_State, cells_Item, cells_Enum, cells_Node, cells_row0, cells_row1, cells_row2, cells_row3, cells_row4, cells_row5, cells_row6, cells_row7, List.drop_zero, List.drop_succ_cons, List.take_succ_cons, List.take_zero, List.getElem?_cons_zero, List.getElem?_cons_succ] at g0 g1
   obtain ⟨z0, e0, b0, _⟩ := DataW.trod_string Tryz.underlying9 g0
   obtain rfl := (List.cons.inj e0).1
   obtain ⟨A1, z1, c1, e1, l1, r1, q1, w1⟩ := zopen_row (d := Kd.string) qS vS Tryz.underlying32 (by exact cells_string) (fun n' _ cs' y hy => zopen_string hy) g1
   obtain rfl := (List.cons.inj e1).1
   refine ⟨⟨z0, z1⟩, k38_mk w ⟨z0, z1⟩ l1 r1, trivial, ?_⟩
   simp only [List.map_cons, List.map_nil, Rows.uptoBulk, Rows.uptoBulkAll, vEn]
   omega
theorem zopen_node (fuel : Nat) : ∀ (cs : List Value) (x : DataW H × List MemPlace), DataW.trod enc Tryz.prog w base spare held fuel 35 cs = some x → ∃ z : S35, k35.K w z cs ∧ qNd z ∧ vNd z ≤ Rows.uptoBulk x.1 := by
 intro cs x h
 obtain ⟨xs, n, hn, rfl, hl, hxl, hf⟩ := DataW.trod_struct Tryz.underlying35 h
 rw [cells_Node] at hl
 match cs, hl, xs, hxl with
 | [v0, v1, v2, v3, v4], _, [y0, y1, y2, y3, y4], _ =>
   have g0 : DataW.trod enc Tryz.prog w base spare held n 9 ((List.drop 0 [v0, v1, v2, v3, v4]).take (Tryz.prog.cellsOf 9)) = some y0 := hf 0 _ rfl
   have g1 : DataW.trod enc Tryz.prog w base spare held n 32 ((List.drop 1 [v0, v1, v2, v3, v4]).take (Tryz.prog.cellsOf 32)) = some y1 := hf 1 _ rfl
   have g2 : DataW.trod enc Tryz.prog w base spare held n 32 ((List.drop 2 [v0, v1, v2, v3, v4]).take (Tryz.prog.cellsOf 32)) = some y2 := hf 2 _ rfl
   have g3 : DataW.trod enc Tryz.prog w base spare held n 32 ((List.drop 3 [v0, v1, v2, v3, v4]).take (Tryz.prog.cellsOf 32)) = some y3 := hf 3 _ rfl
   have g4 : DataW.trod enc Tryz.prog w base spare held n 33 ((List.drop 4 [v0, v1, v2, v3, v4]).take (Tryz.prog.cellsOf 33)) = some y4 := hf 4 _ rfl
   simp only [cells_int, cells_int64, cells_string, cells_Expr, cells_Eq, cells_Way, cells_State, cells_Item, cells_Enum, cells_Node, cells_row0, cells_row1, cells_row2, cells_row3, cells_row4, cells_row5, cells_row6, cells_row7, List.drop_zero, List.drop_succ_cons, List.take_succ_cons, List.take_zero, List.getElem?_cons_zero, List.getElem?_cons_succ] at g0 g1 g2 g3 g4
   obtain ⟨z0, e0, b0, _⟩ := DataW.trod_string Tryz.underlying9 g0
   obtain rfl := (List.cons.inj e0).1
   obtain ⟨A1, z1, c1, e1, l1, r1, q1, w1⟩ := zopen_row (d := Kd.string) qS vS Tryz.underlying32 (by exact cells_string) (fun n' _ cs' y hy => zopen_string hy) g1
   obtain rfl := (List.cons.inj e1).1
   obtain ⟨A2, z2, c2, e2, l2, r2, q2, w2⟩ := zopen_row (d := Kd.string) qS vS Tryz.underlying32 (by exact cells_string) (fun n' _ cs' y hy => zopen_string hy) g2
   obtain rfl := (List.cons.inj e2).1
   obtain ⟨A3, z3, c3, e3, l3, r3, q3, w3⟩ := zopen_row (d := Kd.string) qS vS Tryz.underlying32 (by exact cells_string) (fun n' _ cs' y hy => zopen_string hy) g3
   obtain rfl := (List.cons.inj e3).1
   obtain ⟨A4, z4, c4, e4, l4, r4, q4, w4⟩ := zopen_row (d := k47) qIt vIt Tryz.underlying33 (by exact cells_Item) (fun n' _ cs' y hy => zopen_item n' cs' y hy) g4
   obtain rfl := (List.cons.inj e4).1
   refine ⟨⟨z0, z1, z2, z3, z4⟩, k35_mk w ⟨z0, z1, z2, z3, z4⟩ l1 r1 l2 r2 l3 r3 l4 r4, q4, ?_⟩
   simp only [List.map_cons, List.map_nil, Rows.uptoBulk, Rows.uptoBulkAll, vNd]
   omega
theorem zopen_program {fuel : Nat} {cs : List Value} {x : DataW H × List MemPlace} (h : DataW.trod enc Tryz.prog w base spare held fuel 25 cs = some x) :
   ∃ (Ae An : Option Addr) (es : List S38) (ns : List S35) (ce cn : Nat), cs = [.slice Ae es.length ce, .slice An ns.length cn] ∧ es.length ≤ ce ∧ ns.length ≤ cn ∧ k38.C w Ae es.length es ∧ k35.C w An ns.length ns ∧ (∀ n ∈ ns, qNd n) ∧ (es.map vEn).sum + (ns.map vNd).sum ≤ Rows.uptoBulk x.1 := by
 obtain ⟨xs, n, hn, rfl, hl, hxl, hf⟩ := DataW.trod_struct Tryz.underlying25 h
 rw [cells_Program] at hl
 match cs, hl, xs, hxl with
 | [v0, v1], _, [y0, y1], _ =>
   have g0 := hf 0 _ rfl
   have g1 := hf 1 _ rfl
   simp only [cells_int, cells_int64, cells_string, cells_Expr, cells_Eq, cells_Way, cells_State, cells_Item, cells_Enum, cells_Node, cells_row0, cells_row1, cells_row2, cells_row3, cells_row4, cells_row5, cells_row6, cells_row7, List.drop_zero, List.drop_succ_cons, List.take_succ_cons, List.take_zero, List.getElem?_cons_zero, List.getElem?_cons_succ] at g0 g1
   obtain ⟨A0, z0, c0, e0, l0, r0, q0, w0⟩ := zopen_row (d := k38) qEn vEn Tryz.underlying22 (by exact cells_Enum) (fun n' _ cs' y hy => zopen_enum n' cs' y hy) g0
   obtain ⟨A1, z1, c1, e1, l1, r1, q1, w1⟩ := zopen_row (d := k35) qNd vNd Tryz.underlying23 (by exact cells_Node) (fun n' _ cs' y hy => zopen_node n' cs' y hy) g1
   obtain rfl := (List.cons.inj e0).1
   obtain rfl := (List.cons.inj e1).1
   refine ⟨A0, A1, z0, z1, c0, c1, rfl, l0, l1, r0, r1, q1, ?_⟩
   simp only [List.map_cons, List.map_nil, Rows.uptoBulk, Rows.uptoBulkAll]
   omega
end
end Go.Proofs.YtggfnbnochmkdaaGreat
namespace Go.Proofs.YtggfnbnochmkdaaGreat
open Go Go.RowKit Go.Lib Go.Proofs.YtggfnbnochmkdaaGreatW.PrintWords Go.Proofs.YtggfnbnochmkdaaGreat.PScope
set_option maxRecDepth 100000
set_option linter.unusedSimpArgs false
set_option linter.unusedVariables false
theorem bv_or_one (a : BitVec 64) : a ||| 1#64 = 1#64 ↔ a.toNat < 2 := by
 constructor
 · intro h
   have h1 : a &&& (a ||| 1#64) = a := by
     apply BitVec.eq_of_toNat_eq
     rw [BitVec.toNat_and, BitVec.toNat_or]
     apply Nat.eq_of_testBit_eq
     intro i
     rw [Nat.testBit_and, Nat.testBit_or]
     cases a.toNat.testBit i <;> simp
   rw [h] at h1
   have h2 := congrArg BitVec.toNat h1
   rw [BitVec.toNat_and, show (1#64).toNat = 1 from rfl, Nat.and_one_is_mod] at h2
   omega
 · intro h
   have : a = 0#64 ∨ a = 1#64 := by
     rcases (show a.toNat = 0 ∨ a.toNat = 1 by omega) with h | h
     · left; apply BitVec.eq_of_toNat_eq; rw [h]; rfl
     · right; apply BitVec.eq_of_toNat_eq; rw [h]; rfl
   rcases this with rfl | rfl <;> rfl
theorem wrap_one (n : Nat) (h : n < 2 ^ 64) : IntKind.i64.wrap (n : Int) = 1 ↔ n = 1 := by
 unfold IntKind.wrap
 simp only [show IntKind.i64.bits = 64 from rfl, show IntKind.i64.signed = true from rfl, show ((2 : Int) ^ 64) = 18446744073709551616 from rfl, show ((2 : Int) ^ (64 - 1)) = 9223372036854775808 from rfl, Bool.true_and, decide_eq_true_eq]
 split <;> omega
theorem bit_eq (x : Int) (h : InI x) : bitB x = bit2B x := by
 obtain ⟨h1, h2⟩ := h
 rw [Bool.eq_iff_iff]
 unfold bitB bit2B
 rw [beq_iff_eq, Bool.or_eq_true, beq_iff_eq, beq_iff_eq]
 have hb : bits BinOp.or IntKind.i64 x 1 = IntKind.i64.wrap (((BitVec.ofInt 64 x ||| 1#64).toNat : Nat) : Int) := rfl
 rw [hb, wrap_one _ (BitVec.isLt _)]
 have h3 : (BitVec.ofInt 64 x ||| 1#64).toNat = 1 ↔ BitVec.ofInt 64 x ||| 1#64 = 1#64 := ⟨fun e => BitVec.eq_of_toNat_eq e, fun e => by rw [e]; rfl⟩
 rw [h3, bv_or_one, BitVec.toNat_ofInt]
 omega
theorem eqb1 (b : Bool) : (b == true) = b := by cases b <;> rfl
theorem eqb2 (b : Bool) : (b == false) = !b := by cases b <;> rfl
theorem eqb3 (b : Bool) : (true == b) = b := by cases b <;> rfl
theorem eqb4 (b : Bool) : (false == b) = !b := by cases b <;> rfl
theorem all_eq {α : Type} (p q : α → Bool) : ∀ l : List α, (∀ x ∈ l, p x = q x) → l.all p = l.all q
 | [], _ => rfl
 | a :: r, h => by rw [List.all_cons, List.all_cons, h a (List.mem_cons_self ..), all_eq p q r (fun x hx => h x (List.mem_cons_of_mem _ hx))]
theorem all_not {α : Type} (p : α → Bool) (l : List α) : (!l.any (fun k => !p k)) = l.all p := by
 induction l with
 | nil => rfl
 | cons a r ih => rw [List.any_cons, List.all_cons, ← ih]; cases p a <;> simp
theorem list_empty (s : List UInt8) : (s == ([] : List UInt8)) = s.isEmpty := by cases s <;> rfl
theorem any_none (l : List ByteArray) : l.any (fun s => !(fun _ => true : ByteArray → Bool) s) = false := by
 induction l with
 | nil => rfl
 | cons a r ih => rw [List.any_cons, ih]; rfl
set_option maxHeartbeats 4000000 in
theorem shape_top (made : Bool) (x : S42) (h : InI x.f2) : (shapeB made x && extraB made x) = topB made x := by
 obtain ⟨a, b, c, d, k⟩ := x
 by_cases hop : okOp a = true
 · have hr : 1 ≤ a ∧ a ≤ 15 := by unfold okOp at hop; simp only [Bool.and_eq_true, decide_eq_true_eq] at hop; exact hop
   have hb := bit_eq c h
   have hc : a = 1 ∨ a = 2 ∨ a = 3 ∨ a = 4 ∨ a = 5 ∨ a = 6 ∨ a = 7 ∨ a = 8 ∨ a = 9 ∨ a = 10 ∨ a = 11 ∨ a = 12 ∨ a = 13 ∨ a = 14 ∨ a = 15 := by omega
   clear hr
   rcases hc with rfl | rfl | rfl | rfl | rfl | rfl | rfl | rfl | rfl | rfl | rfl | rfl | rfl | rfl | rfl
   all_goals
     simp only [shapeB, extraB, topB, nameV, numV, named, counted, nameOk, numOk, kidsOk, sameOk, everyOk, wantsOf, wNone, hop, consF, allB, hb, list_empty, rd_T42, reduceIte, Int.reduceEq, Int.reduceBEq, or_self, or_true, true_or, or_false, false_or, Option.getD, any_none]
     simp only [Bool.true_and, Bool.and_true, Bool.not_false, Bool.not_true, Bool.false_or, Bool.or_false, Bool.true_or, Bool.or_true, Bool.false_and, Bool.and_false, beq_self_eq_true, eqb1, eqb2, eqb3, eqb4]
     try (rw [Bool.eq_iff_iff]; simp only [Bool.and_eq_true, Bool.or_eq_true, decide_eq_true_eq, beq_iff_eq, Bool.not_eq_true']; grind)
 · have hf : okOp a = false := by cases hq : okOp a <;> simp_all
   unfold shapeB topB
   simp only [hf, Bool.false_and]
theorem expr_same (made : Bool) (n : Nat) : ∀ x : S42, SizeOf.sizeOf x ≤ n → qEx x → rexprB made x = exprB made x := by
 induction n with
 | zero => intro x h; exfalso; cases x; simp only [S42.mk.sizeOf_spec] at h; omega
 | succ n ih =>
   intro x h hq
   rw [qEx_eq] at hq
   rw [rexprB_eq, exprB_eq, ← Bool.and_assoc, shape_top made x hq.1]
   have hk := (qExs_all _).1 hq.2
   have hs : ∀ z ∈ x.f4, SizeOf.sizeOf z ≤ n := fun z hz => by
     have h2 := List.sizeOf_lt_of_mem hz
     cases x
     simp only [S42.mk.sizeOf_spec] at *
     have h3 := h2
     omega
   have : ∀ l : List S42, (∀ z ∈ l, rexprB made z = exprB made z) → rexprsB made l = exprsB made l := by
     intro l
     induction l with
     | nil => intro _; rw [rexprsB, exprsB]
     | cons a r ihl => intro hl; rw [rexprsB, exprsB, hl a (List.mem_cons_self ..), ihl (fun z hz => hl z (List.mem_cons_of_mem _ hz))]
   rw [this x.f4 (fun z hz => ih z (hs z hz) (hk z hz))]
theorem expr_same' (made : Bool) (x : S42) (h : qEx x) : rexprB made x = exprB made x := expr_same made _ x (Nat.le_refl _) h
theorem eq_same (made : Bool) (q : S44) (h : qEq q) : reqB made q = eqB made q := by unfold reqB eqB; rw [expr_same' made _ h]
theorem way_same (made : Bool) (y : S93) (h : qWay y) : rwayB made y = wayB made y := by unfold rwayB wayB; rw [expr_same' made _ h]
theorem state_same (made : Bool) (s : S65) (h : qSt s) : rstateB made s = stateB made s := by
 unfold rstateB stateB
 rw [all_eq _ _ _ (fun q hq => eq_same made q (h.1 q hq)), all_eq _ _ _ (fun q hq => way_same made q (h.2 q hq))]
 rw [decide_eq_decide.2 (show ((s.f1.length : Int) ≤ 24 ↔ s.f1.length ≤ 24) by omega), decide_eq_decide.2 (show ((s.f2.length : Int) ≤ 4 ↔ s.f2.length ≤ 4) by omega)]
theorem zero_same (x : S42) : rzeroB x = zeroB x := by
 unfold rzeroB zeroB sameL
 rw [list_empty, Bool.eq_iff_iff]
 simp only [Bool.and_eq_true, beq_iff_eq, decide_eq_true_eq, ← List.length_eq_zero_iff]
 grind
theorem item_same (made : Bool) (x : S47) (h : qIt x) : ritemB made x = itemB made x := by
 unfold ritemB itemB
 by_cases e : x.f1.length = 0
 · rw [if_pos e, if_pos e, eq_same made _ h.1]
 · rw [if_neg e, if_neg e, all_not, all_eq _ _ _ (fun s hs => state_same made s (h.2 s hs)), zero_same, Bool.and_assoc, Bool.and_assoc]
theorem node_same (made : Bool) (n : S35) (h : qNd n) : rnodeB made n = nodeB made n := by
 unfold rnodeB nodeB
 rw [all_not, all_eq _ _ _ (fun x hx => item_same made x (h x hx))]
theorem field_same (made : Bool) (es : List S38) (ns : List S35) (h : ∀ n ∈ ns, qNd n) : rfieldB made es ns = programB made es ns := by
 unfold rfieldB programB rheadB mostI
 rw [all_not, all_eq _ _ _ (fun n hn => node_same made n (h n hn)), show renumB = enumB from rfl]
 generalize es.length = a
 generalize ns.length = b
 cases made <;> cases es.all (enumB _) <;> cases ns.all (nodeB _) <;> rw [Bool.eq_iff_iff] <;> simp <;> omega
theorem acc_fst : ∀ (l : List S42) (p : Int × Int), (l.foldl acc p).1 = l.foldl accS p.1
 | [], _ => rfl
 | _ :: r, p => by rw [List.foldl_cons, List.foldl_cons, acc_fst r]; rfl
theorem acc_snd : ∀ (l : List S42) (p : Int × Int), (l.foldl acc p).2 ≤ 40 ↔ p.2 ≤ 40 ∧ l.all dOk = true
 | [], _ => by simp
 | e :: r, p => by
   rw [List.foldl_cons, acc_snd r, List.all_cons, Bool.and_eq_true]
   show max p.2 (depthE e) ≤ 40 ∧ _ ↔ _
   rw [Int.max_le, show (dOk e = true) = (depthE e ≤ 40) by unfold dOk; rw [decide_eq_true_eq], and_assoc]
theorem fits_same (n : S35) : rokB n = fitsB n := by
 unfold rokB fitsB bigP
 have h1 := acc_fst (ndEx n) (0, 0)
 have h2 := acc_snd (ndEx n) (0, 0)
 rw [h1]
 rw [Bool.eq_iff_iff]
 simp only [Bool.and_eq_true, decide_eq_true_eq, Bool.not_eq_true', Bool.or_eq_false_iff, decide_eq_false_iff_not]
 generalize (ndEx n).all dOk = q at h2
 generalize ((ndEx n).foldl acc (0, 0)).2 = m at h2
 generalize (ndEx n).foldl accS 0 = s
 constructor
 · rintro ⟨a, b⟩; exact ⟨by omega, by have := h2.2 ⟨by decide, a⟩; omega⟩
 · rintro ⟨a, b⟩; exact ⟨(h2.1 (by omega)).2, by omega⟩
theorem right_same (made : Bool) (es : List S38) (ns : List S35) (h : ∀ n ∈ ns, qNd n) : rrightP made es ns = rightP es ns made := by
 unfold rrightP rightP
 rw [field_same made es ns h, show rokB = fitsB from funext fits_same]
end Go.Proofs.YtggfnbnochmkdaaGreat
namespace Go.Proofs.YtggfnbnochmkdaaGreat
open Go Go.RowKit Go.Lib Go.Proofs.YtggfnbnochmkdaaGreatW.PrintWords Go.Proofs.YtggfnbnochmkdaaGreat.PScope
set_option maxRecDepth 100000
set_option linter.unusedSimpArgs false
set_option linter.unusedVariables false
theorem sum_vS (l : List ByteArray) : (l.map vS).sum = l.length := by
 induction l with
 | nil => rfl
 | cons a r ih => simp only [List.map_cons, List.sum_cons, ih, vS, List.length_cons]; omega
theorem flat_le {α β : Type} (f : α → List β) (wt : α → Nat) (l : List α) (h : ∀ x, x ∈ l → (f x).length ≤ wt x) : (l.flatMap f).length ≤ (l.map wt).sum := by
 induction l with
 | nil => simp
 | cons x r ih =>
   rw [List.flatMap_cons, List.length_append, List.map_cons, List.sum_cons]
   have := h x (List.mem_cons_self ..)
   have := ih (fun y hy => h y (List.mem_cons_of_mem _ hy))
   omega
theorem sum_at {α : Type} (wt : α → Nat) (l : List α) (z : α) (k : Nat) (h : k < l.length) : wt (l.getD k z) ≤ (l.map wt).sum := by
 induction l generalizing k with
 | nil => simp at h
 | cons x r ih =>
   rw [List.map_cons, List.sum_cons]
   cases k with
   | zero => show wt x ≤ _; omega
   | succ k => have := ih k (by simpa using h); show wt (r.getD k z) ≤ _; omega
theorem len_le {α : Type} (wt : α → Nat) (h : ∀ x, 1 ≤ wt x) (l : List α) : l.length ≤ (l.map wt).sum := by
 induction l with
 | nil => simp
 | cons x r ih => rw [List.length_cons, List.map_cons, List.sum_cons]; have := h x; omega
theorem definesL_le (x : S47) : (definesL x).length ≤ vIt x := by
 unfold definesL vIt
 by_cases e : x.f1.length = 0
 · rw [if_pos e]; unfold vEq; rw [sum_vS]; omega
 · rw [if_neg e]
   have h1 := flat_le (fun q : S44 => q.f0) vEq (x.f1.getD 0 z65).f1 (fun q _ => by unfold vEq; rw [sum_vS]; omega)
   have h2 := sum_at vSt x.f1 z65 0 (by omega)
   have h3 : vSt (x.f1.getD 0 z65) = 1 + ((x.f1.getD 0 z65).f1.map vEq).sum + ((x.f1.getD 0 z65).f2.map vWay).sum := rfl
   omega
theorem varsL_le (n : S35) : (varsL n).length ≤ vNd n := by
 unfold varsL vNd
 rw [List.length_append, sum_vS, sum_vS]
 have := flat_le definesL vIt n.f4 (fun x _ => definesL_le x)
 omega
theorem stEx_le (s : S65) : (stEx s).length ≤ vSt s := by
 unfold stEx vSt
 have h1 := len_le vEq (fun q => by unfold vEq; omega) s.f1
 have h2 := len_le vWay (fun q => Nat.le_refl 1) s.f2
 rw [List.length_append, List.length_map, List.length_map]
 omega
theorem itEx_le (x : S47) : (itEx x).length ≤ vIt x := by
 unfold itEx vIt
 have h1 := flat_le stEx vSt x.f1 (fun s _ => stEx_le s)
 rw [List.length_append]
 split <;> simp only [List.length_cons, List.length_nil] <;> omega
theorem ndEx_le (n : S35) : (ndEx n).length ≤ vNd n := by
 unfold ndEx vNd
 have := flat_le itEx vIt n.f4 (fun x _ => itEx_le x)
 omega
theorem it_at {n : S35} {x : S47} (hx : x ∈ n.f4) : vIt x ≤ vNd n := by
 obtain ⟨k, hk, rfl⟩ := List.mem_iff_getElem.1 hx
 have := sum_at vIt n.f4 z47 k hk
 rw [List.getD_eq_getElem?_getD, List.getElem?_eq_getElem hk] at this
 unfold vNd
 have h2 : vIt ((some n.f4[k]).getD z47) = vIt n.f4[k] := rfl
 omega
theorem items_len (n : S35) : n.f4.length ≤ vNd n := by
 have := len_le vIt (fun n => by unfold vIt; omega) n.f4
 unfold vNd; omega
end Go.Proofs.YtggfnbnochmkdaaGreat
