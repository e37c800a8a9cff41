/- Flat programs, in plain Lean: what they weigh and take; a statement more; the least is no more than the most. -/
import Derived.Test.YticndoihkfbpoaaGreatDoorVb
namespace Go.Proofs.YticndoihkfbpoaaGreatDoor
open Go Go.RowKit Go.Lib Go.Proofs.YticndoihkfbpoaaGreatDoorW.PrintWords Go.Proofs.YticndoihkfbpoaaGreatDoor.PScope
set_option maxRecDepth 100000
set_option linter.unusedSimpArgs false
set_option linter.unusedVariables false
mutual
def takS (g : Int → Int) (n : Int) : FS → Int
 | .mk op _ _ fn _ _ _ arms => min (takA g (if op = 3 then n + g fn else n) arms) 1000
def takL (g : Int → Int) (n : Int) : List FS → Int
 | [] => n
 | s :: r => takL g (takS g n s) r
def takA (g : Int → Int) (n : Int) : List (Int × List FS) → Int
 | [] => n
 | a :: r => takA g (n + takP g a) r
def takP (g : Int → Int) : Int × List FS → Int
 | (_, b) => takL g 0 b
end
theorem takP_eq (g : Int → Int) (a : Int × List FS) : takP g a = takL g 0 a.2 := by cases a; rw [takP]
theorem takS_eq (g : Int → Int) (n : Int) (s : FS) : takS g n s = min (takA g (if s.op = 3 then n + g s.fn else n) s.arms) 1000 := by
 cases s
 rw [takS]; rfl
def GOk (g : Int → Int) : Prop := ∀ i, 0 ≤ g i ∧ g i ≤ 1001
theorem takA_ge {g : Int → Int} : ∀ (l : List (Int × List FS)), (∀ a ∈ l, 0 ≤ takP g a) → ∀ n : Int, n ≤ takA g n l
 | [], _, n => by rw [takA]; exact Int.le_refl _
 | a :: r, h, n => by
  rw [takA]
  have := h a (by simp)
  exact Int.le_trans (by omega) (takA_ge r (fun x hx => h x (by simp [hx])) _)
theorem takL_ok {g : Int → Int} (hg : GOk g) {l : List FS} (hl : Small l) : ∀ n : Int, 0 ≤ n → n ≤ 1000 → 0 ≤ takL g n l ∧ takL g n l ≤ 1000 := by
 induction hl with
 | mk l h1 h2 h3 ih =>
  clear h1 h2 h3
  induction l with
  | nil => intro n h0 h1; rw [takL]; exact ⟨h0, h1⟩
  | cons s r ihr =>
   intro n h0 h1
   rw [takL]
   have hs : 0 ≤ takS g n s ∧ takS g n s ≤ 1000 := by
    rw [takS_eq]
    have ha := takA_ge (g := g) s.arms (fun a ha => by rw [takP_eq]; exact (ih s (by simp) a ha 0 (by omega) (by omega)).1) (if s.op = 3 then n + g s.fn else n)
    have hb := hg s.fn
    have hc : 0 ≤ (if s.op = 3 then n + g s.fn else n) := by split <;> omega
    omega
   exact ihr (fun s' hs' => ih s' (by simp [hs'])) _ hs.1 hs.2
def wOf (g : Int → Int) (n : Int) : List S103 → Int
 | [] => n
 | p :: r => wOf g (min (n + g p.f1) 1001) r
def wsFrom (ws : List Int) : List FF → List Int
 | [] => ws
 | f :: r => wsFrom (ws ++ [wOf (rd0 ws) 1 f.parts]) r
def tsFrom (ts : List Int) : List FF → List Int
 | [] => ts
 | f :: r => tsFrom (ts ++ [1 + takL (rd0 ts) 0 f.body]) r
def weightAll (l : List FF) : Int := max ((wsFrom [] l).getLastD 0) ((tsFrom [] l).getLastD 0)
def newErr (l : List FF) : Int := if flatOk l then (if weightAll l > 1000 then 9 else 0) else 10
theorem rd0_zeros (ts : List Int) (m : Nat) : rd0 (ts ++ List.replicate m 0) = rd0 ts := by
 funext i
 unfold rd0
 rw [List.getD_eq_getElem?_getD, List.getD_eq_getElem?_getD]
 by_cases h : i.toNat < ts.length
 ·rw [List.getElem?_append_left h]
 ·rw [List.getElem?_append_right (by omega), List.getElem?_eq_none (l := ts) (by omega)]
  by_cases h2 : i.toNat - ts.length < m
  ·rw [List.getElem?_replicate, if_pos h2]; rfl
  ·rw [List.getElem?_eq_none (by simpa using h2)]
theorem rd0_left (ts r : List Int) (i : Int) (h : i.toNat < ts.length) : rd0 (ts ++ r) i = rd0 ts i := by
 unfold rd0
 rw [List.getD_eq_getElem?_getD, List.getD_eq_getElem?_getD, List.getElem?_append_left h]
theorem rd0_mid (ts r : List Int) (c : Int) : rd0 (ts ++ c :: r) (ts.length : Int) = c := by
 unfold rd0
 rw [List.getD_eq_getElem?_getD, Int.toNat_natCast, List.getElem?_append_right (Nat.le_refl _), Nat.sub_self]; rfl
theorem set_mid (ts r : List Int) (c d : Int) : (ts ++ c :: r).set ts.length d = ts ++ d :: r := by
 rw [List.set_append_right _ _ (Nat.le_refl _), Nat.sub_self]; rfl
def WsOk (ws : List Int) : Prop := ∀ c ∈ ws, 0 ≤ c ∧ c ≤ 1001
theorem WsOk.g {ws : List Int} (h : WsOk ws) : GOk (rd0 ws) := by
 intro i
 unfold rd0
 rw [List.getD_eq_getElem?_getD]
 cases hi : ws[i.toNat]? with
 | none => simp
 | some c => exact h c (List.mem_of_getElem? hi)
theorem WsOk.snoc {ws : List Int} (h : WsOk ws) {c : Int} (h0 : 0 ≤ c) (h1 : c ≤ 1001) : WsOk (ws ++ [c]) := by
 intro x hx
 rcases List.mem_append.1 hx with hx | hx
 ·exact h x hx
 ·obtain rfl := List.mem_singleton.1 hx
  exact ⟨h0, h1⟩
theorem badL_le {k m : Int} (hkm : k ≤ m) {l : List FS} (hl : Small l) : badL k l = false → badL m l = false := by
 induction hl with
 | mk l h1 h2 h3 ih =>
  intro hb
  rw [badL_any, List.any_eq_false] at hb ⊢
  intro s hs
  have h := hb s hs
  rw [Bool.not_eq_true, badS_eq, Bool.or_eq_false_iff] at h ⊢
  refine ⟨?_, ?_⟩
  ·have := h.1
   unfold callBad at this ⊢
   simp only [Bool.and_eq_false_iff, Bool.or_eq_false_iff, decide_eq_false_iff_not] at this ⊢
   omega
  ·have := h.2
   rw [List.any_eq_false] at this ⊢
   intro a ha
   have := this a ha
   rw [Bool.not_eq_true] at this ⊢
   exact ih s hs a ha this
theorem kFS_openV {w : World} {x : FS} {cs : List Value} (h : kFS.K w x cs) :
  ∃ A4 c4 A8 c8 A9 c9 A6 c6 A7 c7, cs = [.int .i64 x.op, .string x.name, .int .i64 x.pos, .int .i64 x.fn, .slice A4 x.names.length c4, .int .i64 x.e.f0, .string x.e.f1, .int .i64 x.e.f2, .slice A8 x.e.f3.length c8, .slice A9 x.e.f4.length c9, .slice A6 x.args.length c6, .slice A7 x.arms.length c7] ∧
   x.names.length ≤ c4 ∧ Kd.string.C w A4 x.names.length x.names ∧ x.e.f3.length ≤ c8 ∧ Kd.string.C w A8 x.e.f3.length x.e.f3 ∧ x.e.f4.length ≤ c9 ∧ kE.C w A9 x.e.f4.length x.e.f4 ∧ x.args.length ≤ c6 ∧ kE.C w A6 x.args.length x.args ∧ x.arms.length ≤ c7 ∧ kFA.C w A7 x.arms.length x.arms := by
 obtain ⟨A4, c4, ce, A6, c6, A7, c7, rfl, l4, g4, g5, l6, g6, l7, g7⟩ := kFS_open h
 obtain ⟨A8, c8, A9, c9, rfl, l8, g8, l9, g9⟩ := k38_open g5
 exact ⟨A4, c4, A8, c8, A9, c9, A6, c6, A7, c7, rfl, l4, g4, l8, g8, l9, g9, l6, g6, l7, g7⟩
theorem kFS_mk12 (w : World) (x : FS) {A4 A8 A9 A6 A7 : Option Addr} {c4 c8 c9 c6 c7 : Nat} (l4 : x.names.length ≤ c4) (g4 : Kd.string.C w A4 x.names.length x.names) (l8 : x.e.f3.length ≤ c8) (g8 : Kd.string.C w A8 x.e.f3.length x.e.f3) (l9 : x.e.f4.length ≤ c9) (g9 : kE.C w A9 x.e.f4.length x.e.f4) (l6 : x.args.length ≤ c6) (g6 : kE.C w A6 x.args.length x.args) (l7 : x.arms.length ≤ c7) (g7 : kFA.C w A7 x.arms.length x.arms) :
  kFS.K w x [.int .i64 x.op, .string x.name, .int .i64 x.pos, .int .i64 x.fn, .slice A4 x.names.length c4, .int .i64 x.e.f0, .string x.e.f1, .int .i64 x.e.f2, .slice A8 x.e.f3.length c8, .slice A9 x.e.f4.length c9, .slice A6 x.args.length c6, .slice A7 x.arms.length c7] :=
 kFS_unK.2 ⟨[.int .i64 x.op], _, rfl, rfl, ⟨[.string x.name], _, rfl, rfl, ⟨[.int .i64 x.pos], _, rfl, rfl, ⟨[.int .i64 x.fn], _, rfl, rfl, ⟨[.slice A4 x.names.length c4], _, rfl, ⟨A4, c4, rfl, l4, g4⟩, ⟨[.int .i64 x.e.f0, .string x.e.f1, .int .i64 x.e.f2, .slice A8 x.e.f3.length c8, .slice A9 x.e.f4.length c9], _, rfl, k38_mk w x.e l8 g8 l9 g9, ⟨[.slice A6 x.args.length c6], _, rfl, ⟨A6, c6, rfl, l6, g6⟩, ⟨A7, c7, rfl, l7, g7⟩⟩⟩⟩⟩⟩⟩⟩
theorem kFF_open6 {w : World} {x : FF} {cs : List Value} (h : kFF.K w x cs) : ∃ A0 c0 A1 c1 A3 c3 A4 c4 A5 c5, cs = [.slice A0 x.params.length c0, .slice A1 x.results.length c1, .int .i64 x.cells, .slice A3 x.flags.length c3, .slice A4 x.parts.length c4, .slice A5 x.body.length c5] ∧
  x.params.length ≤ c0 ∧ Kd.string.C w A0 x.params.length x.params ∧ x.results.length ≤ c1 ∧ Kd.string.C w A1 x.results.length x.results ∧ x.flags.length ≤ c3 ∧ (Kd.int .i64).C w A3 x.flags.length x.flags ∧ x.parts.length ≤ c4 ∧ kPt.C w A4 x.parts.length x.parts ∧ x.body.length ≤ c5 ∧ kFS.C w A5 x.body.length x.body := by
 obtain ⟨_, _, rfl, ⟨A0, c0, rfl, l0, g0⟩, ⟨_, _, rfl, ⟨A1, c1, rfl, l1, g1⟩, ⟨_, _, rfl, rfl, ⟨_, _, rfl, ⟨A3, c3, rfl, l3, g3⟩, ⟨_, _, rfl, ⟨A4, c4, rfl, l4, g4⟩, ⟨A5, c5, rfl, l5, g5⟩⟩⟩⟩⟩⟩ := h
 exact ⟨A0, c0, A1, c1, A3, c3, A4, c4, A5, c5, rfl, l0, g0, l1, g1, l3, g3, l4, g4, l5, g5⟩
theorem kFF_mk6 (w : World) (x : FF) {A0 A1 A3 A4 A5 : Option Addr} {c0 c1 c3 c4 c5 : Nat} (l0 : x.params.length ≤ c0) (g0 : Kd.string.C w A0 x.params.length x.params) (l1 : x.results.length ≤ c1) (g1 : Kd.string.C w A1 x.results.length x.results) (l3 : x.flags.length ≤ c3) (g3 : (Kd.int .i64).C w A3 x.flags.length x.flags) (l4 : x.parts.length ≤ c4) (g4 : kPt.C w A4 x.parts.length x.parts) (l5 : x.body.length ≤ c5) (g5 : kFS.C w A5 x.body.length x.body) :
  kFF.K w x [.slice A0 x.params.length c0, .slice A1 x.results.length c1, .int .i64 x.cells, .slice A3 x.flags.length c3, .slice A4 x.parts.length c4, .slice A5 x.body.length c5] :=
 ⟨[.slice A0 x.params.length c0], _, rfl, ⟨A0, c0, rfl, l0, g0⟩, ⟨[.slice A1 x.results.length c1], _, rfl, ⟨A1, c1, rfl, l1, g1⟩, ⟨[.int .i64 x.cells], _, rfl, rfl, ⟨[.slice A3 x.flags.length c3], _, rfl, ⟨A3, c3, rfl, l3, g3⟩, ⟨[.slice A4 x.parts.length c4], _, rfl, ⟨A4, c4, rfl, l4, g4⟩, ⟨A5, c5, rfl, l5, g5⟩⟩⟩⟩⟩⟩
theorem kFA_mk2 (w : World) (x : Int × List FS) {A1 : Option Addr} {c1 : Nat} (l1 : x.2.length ≤ c1) (g1 : kFS.C w A1 x.2.length x.2) : kFA.K w x [.int .i64 x.1, .slice A1 x.2.length c1] :=
 ⟨[.int .i64 x.1], _, rfl, rfl, ⟨A1, c1, rfl, l1, g1⟩⟩
def zFA : Int × List FS := (0, [])
def zFF : FF := ⟨[], [], 0, [], [], []⟩
def IRow (w : World) (b : Nat) (xs : List Int) : Prop := w.heap[b]? = some (.cells (xs.map (fun x => Value.int .i64 x)).toArray 3 (0, 0))
theorem IRow.cellN {w : World} {b : Nat} {xs : List Int} (h : IRow w b xs) (i : Nat) (h1 : i < xs.length) : w.cell? ⟨b, i, none⟩ = some (.int .i64 (rd0 xs i)) := by
 rw [blk_cell h i]
 unfold rd0
 rw [List.getD_eq_getElem?_getD, Int.toNat_natCast]
 simp [h1]
theorem IRow.set {w : World} {b : Nat} {xs : List Int} (h : IRow w b xs) (i : Nat) (v : Int) : IRow (w.setCell ⟨b, i, none⟩ (.int .i64 v)) b (xs.set i v) := by
 unfold IRow at h ⊢
 exact blk_put h i (.int .i64 v) (by simp [List.map_set])
theorem IRow.row {w : World} {b : Nat} {xs : List Int} (h : IRow w b xs) (hm : xs.length ≤ 9223372036854775807) : (Kd.int .i64).C w (some ⟨b, 0, none⟩) xs.length xs := by
 refine ⟨rfl, hm, fun _ => ⟨⟨b, 0, none⟩, rfl, fun j p hj => ⟨[.int .i64 p], rfl, rfl, fun i u hu => ?_⟩⟩⟩
 have hjl := (List.getElem?_eq_some_iff.1 hj).1
 cases i with
 | succ i => simp at hu
 | zero =>
  simp at hu
  subst hu
  have := h.cellN j hjl
  unfold rd0 at this
  rw [List.getD_eq_getElem?_getD, Int.toNat_natCast, hj] at this
  rw [show (Kd.int .i64).sz = 1 from rfl, Nat.mul_one, Nat.add_zero]
  cases j with
  | zero => exact this
  | succ j => simpa [Addr.add] using this
theorem IRow.made (w : World) (n : Nat) : IRow (w.alloc (.cells (madeCells #[.int .i64 0] n) 3)) w.heap.size (List.replicate n 0) := by
 have := blk_new w (.cells (madeCells #[.int .i64 0] n) 3)
 unfold IRow
 rw [this]
 congr 2
 apply Array.ext'
 simp [madeCells]
 apply List.ext_getElem <;> simp [Nat.mod_one]
def ARow (w : World) (a : Addr) (xs : List Int) : Prop := a = ⟨a.block, 0, none⟩ ∧ IRow w a.block xs
theorem add_zeroed {a : Addr} (h : a = ⟨a.block, 0, none⟩) (i : Nat) : a.add i = ⟨a.block, i, none⟩ := by
 rw [h]
 cases i with
 | zero => rfl
 | succ i => simp [Addr.add]
theorem ARow.cell {w : World} {a : Addr} {xs : List Int} (h : ARow w a xs) (i : Nat) (h1 : i < xs.length) : w.cell? (a.add i) = some (.int .i64 (rd0 xs i)) := by
 rw [add_zeroed h.1]; exact h.2.cellN i h1
theorem ARow.frozen {w : World} {a : Addr} {xs : List Int} (h : ARow w a xs) (i : Nat) : w.frozen? (a.add i) = false := by
 rw [add_zeroed h.1]
 have := h.2
 unfold IRow at this
 simp [World.frozen?, this]
theorem ARow.set {w : World} {a : Addr} {xs : List Int} (h : ARow w a xs) (i : Nat) (v : Int) : ARow (w.setCell (a.add i) (.int .i64 v)) a (xs.set i v) := by
 refine ⟨h.1, ?_⟩
 rw [add_zeroed h.1]; exact h.2.set i v
theorem ARow.far {w : World} {a : Addr} {xs : List Int} (h : ARow w a xs) {b : Addr} {ys : List Int} (hb : ARow w b ys) (hne : a.block ≠ b.block) (i : Nat) (u : Value) : ARow (w.setCell (b.add i) u) a xs := by
 refine ⟨h.1, ?_⟩
 rw [add_zeroed hb.1]
 exact blk_far h.2 (p := ⟨b.block, i, none⟩) hne u
theorem ARow.blkFar {w : World} {b : Addr} {ys : List Int} (hb : ARow w b ys) {g : Nat} {t : TypeId} {cs : Array Value} (h : w.heap[g]? = some (.cells cs t (0, 0))) (hne : g ≠ b.block) (i : Nat) (u : Value) : (w.setCell (b.add i) u).heap[g]? = some (.cells cs t (0, 0)) := by
 rw [add_zeroed hb.1]
 exact blk_far h (p := ⟨b.block, i, none⟩) hne u
theorem ARow.belowSet {w w0 : World} {b : Addr} {ys : List Int} (hb : ARow w b ys) (h : Below w0.heap.size w0 w) (hg : w0.heap.size ≤ b.block) (i : Nat) (u : Value) : Below w0.heap.size w0 (w.setCell (b.add i) u) := by
 rw [add_zeroed hb.1]
 exact below_set h hg
theorem ARow.lt {w : World} {a : Addr} {xs : List Int} (h : ARow w a xs) : a.block < w.heap.size := blk_lt h.2
theorem ARow.below {w w' : World} {a : Addr} {xs : List Int} (h : ARow w a xs) (hb : Below w.heap.size w w') : ARow w' a xs := ⟨h.1, below_blk h.2 hb⟩
theorem ARow.alloc {w : World} {a : Addr} {xs : List Int} (h : ARow w a xs) (o : Obj) : ARow (w.alloc o) a xs := ⟨h.1, blk_alloc h.2 o⟩
theorem ARow.drew {w : World} {a : Addr} {xs : List Int} (h : ARow w a xs) : ARow w.drew a xs := h
theorem ARow.as {W w2 : World} {a : Addr} {xs : List Int} {o' : Obj} (h : ARow W a xs) (hg : (W.alloc o').grownBy w2 (some W.heap.size)) : ARow w2 a xs := ⟨h.1, blk_as h.2 hg⟩
theorem ARow.row {w : World} {a : Addr} {xs : List Int} (h : ARow w a xs) (hm : xs.length ≤ 9223372036854775807) : (Kd.int .i64).C w (some a) xs.length xs := by
 rw [h.1]; exact h.2.row hm
theorem ARow.made (w : World) (n : Nat) : ARow (w.alloc (.cells (madeCells #[.int .i64 0] n) 3)) ⟨w.heap.size, 0, none⟩ (List.replicate n 0) := ⟨rfl, IRow.made w n⟩
theorem info_int : (Tryz.prog.info? 3).map (fun i => (i.zero, i.size, i.bytes)) = some (some (.int .i64 0), 1, 8) := by kernel_rfl
theorem run_make_ints (n : Nat) (hn : n ≤ 17592186044416) (W : World) : (Instr.makeSlice 32 (.int .i64 (n : Int)) (.int .i64 (n : Int))).run Tryz.prog W = .ok (.slice (some ⟨W.heap.size, 0, none⟩) n n) (W.alloc (.cells (madeCells #[.int .i64 0] n) 3)) :=
 run_make_row' 32 3 (.int .i64 0) 8 Tryz.underlying32 info_int rfl .i64 .i64 n (by omega) (by omega) W
def BelowSays (k : Int) (l : List FS) : Prop := ∀ (w : World) (A : Option Addr) (c : Nat), kFS.C w A l.length l →
 Calls Tryz.prog 66 #[.slice A l.length c, .int .i64 k] w fun e w' => e = .returned (.bool (!badL k l)) ∧ Below w.heap.size w w'
set_option maxHeartbeats 1000000 in
theorem below11_calls (k : Int) (a : Int × List FS) (hb : BelowSays k a.2) (cs : List Value) (gb : Nat) (W : World) (hK : kFA.K W a cs) (hg : W.heap[gb]? = some (.cells #[.int .i64 k] 3 (0, 0))) :
  Calls Tryz.prog 105 #[.agg cs.toArray, .pointer (some ⟨gb, 0, none⟩)] W fun e W' => e = .returned (.bool (badL k a.2)) ∧ Below W.heap.size W W' := by
 obtain ⟨A1, c1, rfl, _, hC⟩ := kFA_open hK
 have HB := Aside0.mk hb
 have HC := Aside0.mk hC
 have x0 := (blk_cell hg 0).trans rfl
 have x1 := fun (ob : Obj) => (blk_cell (blk_alloc hg ob) 0).trans rfl
 clear hK hC hb hg
 go_enter Tryz.func105, Tryz.ntmps105
 go_wp2_with fail
 refine (HB.out _ A1 c1 (Kd.C_alloc HC.out _)).mono ?_
 rintro e W' ⟨rfl, hbb⟩
 have HBB := Aside0.mk (below_step (below_alloc (Below.refl _ W) _) hbb)
 clear hbb x0 x1
 go_wp2_with fail
 go_ret
 exact ⟨by simp, HBB.out⟩
theorem below11_eg : ∀ args w, (callFunc 105 args).run Tryz.prog w = .ok (.enter 105 args) w := enters_of Tryz.func105 (by kernel_rfl) rfl
theorem below1_eg : ∀ args w, (callFunc 103 args).run Tryz.prog w = .ok (.enter 103 args) w := enters_of Tryz.func103 (by kernel_rfl) rfl
theorem getD_mem {α : Type} {xs : List α} {i : Nat} (hi : i < xs.length) (z : α) : xs.getD i z ∈ xs := by
 rw [List.getD_eq_getElem?_getD, List.getElem?_eq_getElem hi]; exact List.getElem_mem hi
set_option maxHeartbeats 4000000 in
theorem below1_calls (k : Int) (s : FS) (hb : ∀ a ∈ s.arms, BelowSays k a.2) (cs : List Value) (gb : Nat) (W : World) (hK : kFS.K W s cs) (hg : W.heap[gb]? = some (.cells #[.int .i64 k] 3 (0, 0))) :
  Calls Tryz.prog 103 #[.agg cs.toArray, .pointer (some ⟨gb, 0, none⟩)] W fun e W' => e = .returned (.bool (badS k s)) ∧ Below W.heap.size W W' := by
 obtain ⟨A4, c4, ce, A6, c6, A7, c7, rfl, _, _, g5, _, _, _, hC⟩ := kFS_open hK
 obtain ⟨A8, c8, A9, c9, rfl, _⟩ := k38_open g5
 have HB := Aside0.mk hb
 have HC := Aside0.mk hC
 have HG := Aside0.mk hg
 have hmf := run_mkfn
 rw [badS_eq]
 have x0 := (blk_cell hg 0).trans rfl
 have x1 := fun (ob : Obj) => (blk_cell (blk_alloc hg ob) 0).trans rfl
 clear hK hC hb hg g5
 simp only [fsCells, List.cons_append, List.nil_append]
 unfold callBad
 have d3 : ∀ (b : Int), (s.op == b) = decide (s.op = b) := fun _ => rfl
 by_cases hc : s.op = 3 ∨ s.op = 4
 ·have hcb : (decide (s.op = 3) || decide (s.op = 4)) = true := by simpa using hc
  rw [hcb]
  by_cases hn : s.fn < 0
  ·have dn : decide (s.fn < 0) = true := decide_eq_true hn
   rw [dn]
   rcases hc with h3 | h4
   ·have y3 : (s.op == (3 : Int)) = true := by rw [h3]; rfl
    clear d3 h3
    go_enter Tryz.func103, Tryz.ntmps103
    go_wp2_with fail
    go_ret
    exact ⟨by simp, below_alloc (Below.refl _ _) _⟩
   ·have y3 : (s.op == (3 : Int)) = false := by rw [h4]; rfl
    have y4 : (s.op == (4 : Int)) = true := by rw [h4]; rfl
    clear d3 h4
    go_enter Tryz.func103, Tryz.ntmps103
    go_wp2_with fail
    go_ret
    exact ⟨by simp, below_alloc (Below.refl _ _) _⟩
  ·have dn : decide (s.fn < 0) = false := decide_eq_false hn
   rw [dn]
   by_cases hk : s.fn ≥ k
   ·have dk : decide (s.fn ≥ k) = true := decide_eq_true hk
    rw [dk]
    rcases hc with h3 | h4
    ·have y3 : (s.op == (3 : Int)) = true := by rw [h3]; rfl
     clear d3 h3
     go_enter Tryz.func103, Tryz.ntmps103
     go_wp2_with fail
     go_ret
     exact ⟨by simp, below_alloc (Below.refl _ _) _⟩
    ·have y3 : (s.op == (3 : Int)) = false := by rw [h4]; rfl
     have y4 : (s.op == (4 : Int)) = true := by rw [h4]; rfl
     clear d3 h4
     go_enter Tryz.func103, Tryz.ntmps103
     go_wp2_with fail
     go_ret
     exact ⟨by simp, below_alloc (Below.refl _ _) _⟩
   ·have dk : decide (s.fn ≥ k) = false := decide_eq_false hk
    rw [dk]
    rcases hc with h3 | h4
    ·have y3 : (s.op == (3 : Int)) = true := by rw [h3]; rfl
     clear d3 h3
     go_enter Tryz.func103, Tryz.ntmps103
     go_wp2_with fail
     refine (ct_FArm 105 #[.pointer (some ⟨gb, 0, none⟩)] below11_eg _ _ A7 c7 s.arms (Kd.C_alloc HC.out _) (fun i => (fun a : Int × List FS => badL k a.2) (s.arms.getD i ((0, []) : Int × List FS))) (fun _ W2 => Below (W.alloc (.cells #[.int .i64 s.op, .string s.name, .int .i64 s.pos, .int .i64 s.fn, .slice A4 s.names.length c4, .int .i64 s.e.f0, .string s.e.f1, .int .i64 s.e.f2, .slice A8 s.e.f3.length c8, .slice A9 s.e.f4.length c9, .slice A6 s.args.length c6, .slice A7 s.arms.length c7] 41 (0, 0))).heap.size (W.alloc (.cells #[.int .i64 s.op, .string s.name, .int .i64 s.pos, .int .i64 s.fn, .slice A4 s.names.length c4, .int .i64 s.e.f0, .string s.e.f1, .int .i64 s.e.f2, .slice A8 s.e.f3.length c8, .slice A9 s.e.f4.length c9, .slice A6 s.args.length c6, .slice A7 s.arms.length c7] 41 (0, 0))) W2) (fun _ W2 => Below (W.alloc (.cells #[.int .i64 s.op, .string s.name, .int .i64 s.pos, .int .i64 s.fn, .slice A4 s.names.length c4, .int .i64 s.e.f0, .string s.e.f1, .int .i64 s.e.f2, .slice A8 s.e.f3.length c8, .slice A9 s.e.f4.length c9, .slice A6 s.args.length c6, .slice A7 s.arms.length c7] 41 (0, 0))).heap.size (W.alloc (.cells #[.int .i64 s.op, .string s.name, .int .i64 s.pos, .int .i64 s.fn, .slice A4 s.names.length c4, .int .i64 s.e.f0, .string s.e.f1, .int .i64 s.e.f2, .slice A8 s.e.f3.length c8, .slice A9 s.e.f4.length c9, .slice A6 s.args.length c6, .slice A7 s.arms.length c7] 41 (0, 0))) W2) (fun _ _ h => h) ?_ (Below.refl _ _)).mono ?_
     ·intro i W2 cs2 hi hI hK2
      refine (below11_calls k _ (HB.out _ (getD_mem hi _)) cs2 gb W2 (Kd.K_below _ hI hK2) (below_blk (blk_alloc HG.out _) hI)).mono ?_
      rintro e W3 ⟨rfl, hb3⟩
      exact ⟨rfl, fun _ => below_step hI hb3, fun _ => below_step hI hb3⟩
     ·intro e W2 hp
      obtain ⟨rfl, hI⟩ := CtPost.any (q := fun a : Int × List FS => badL k a.2) (z := ((0, []) : Int × List FS)) hp
      have HBB := Aside0.mk (below_step (below_alloc (Below.refl _ W) _) hI)
      clear hp hI x0 x1
      go_wp2_with fail
      go_ret
      exact ⟨by simp, HBB.out⟩
    ·have y3 : (s.op == (3 : Int)) = false := by rw [h4]; rfl
     have y4 : (s.op == (4 : Int)) = true := by rw [h4]; rfl
     clear d3 h4
     go_enter Tryz.func103, Tryz.ntmps103
     go_wp2_with fail
     refine (ct_FArm 105 #[.pointer (some ⟨gb, 0, none⟩)] below11_eg _ _ A7 c7 s.arms (Kd.C_alloc HC.out _) (fun i => (fun a : Int × List FS => badL k a.2) (s.arms.getD i ((0, []) : Int × List FS))) (fun _ W2 => Below (W.alloc (.cells #[.int .i64 s.op, .string s.name, .int .i64 s.pos, .int .i64 s.fn, .slice A4 s.names.length c4, .int .i64 s.e.f0, .string s.e.f1, .int .i64 s.e.f2, .slice A8 s.e.f3.length c8, .slice A9 s.e.f4.length c9, .slice A6 s.args.length c6, .slice A7 s.arms.length c7] 41 (0, 0))).heap.size (W.alloc (.cells #[.int .i64 s.op, .string s.name, .int .i64 s.pos, .int .i64 s.fn, .slice A4 s.names.length c4, .int .i64 s.e.f0, .string s.e.f1, .int .i64 s.e.f2, .slice A8 s.e.f3.length c8, .slice A9 s.e.f4.length c9, .slice A6 s.args.length c6, .slice A7 s.arms.length c7] 41 (0, 0))) W2) (fun _ W2 => Below (W.alloc (.cells #[.int .i64 s.op, .string s.name, .int .i64 s.pos, .int .i64 s.fn, .slice A4 s.names.length c4, .int .i64 s.e.f0, .string s.e.f1, .int .i64 s.e.f2, .slice A8 s.e.f3.length c8, .slice A9 s.e.f4.length c9, .slice A6 s.args.length c6, .slice A7 s.arms.length c7] 41 (0, 0))).heap.size (W.alloc (.cells #[.int .i64 s.op, .string s.name, .int .i64 s.pos, .int .i64 s.fn, .slice A4 s.names.length c4, .int .i64 s.e.f0, .string s.e.f1, .int .i64 s.e.f2, .slice A8 s.e.f3.length c8, .slice A9 s.e.f4.length c9, .slice A6 s.args.length c6, .slice A7 s.arms.length c7] 41 (0, 0))) W2) (fun _ _ h => h) ?_ (Below.refl _ _)).mono ?_
     ·intro i W2 cs2 hi hI hK2
      refine (below11_calls k _ (HB.out _ (getD_mem hi _)) cs2 gb W2 (Kd.K_below _ hI hK2) (below_blk (blk_alloc HG.out _) hI)).mono ?_
      rintro e W3 ⟨rfl, hb3⟩
      exact ⟨rfl, fun _ => below_step hI hb3, fun _ => below_step hI hb3⟩
     ·intro e W2 hp
      obtain ⟨rfl, hI⟩ := CtPost.any (q := fun a : Int × List FS => badL k a.2) (z := ((0, []) : Int × List FS)) hp
      have HBB := Aside0.mk (below_step (below_alloc (Below.refl _ W) _) hI)
      clear hp hI x0 x1
      go_wp2_with fail
      go_ret
      exact ⟨by simp, HBB.out⟩
 ·have hcb : (decide (s.op = 3) || decide (s.op = 4)) = false := by simpa using hc
  have y3 : (s.op == (3 : Int)) = false := by simp at hcb; simpa using hcb.1
  have y4 : (s.op == (4 : Int)) = false := by simp at hcb; simpa using hcb.2
  rw [hcb]
  clear d3
  go_enter Tryz.func103, Tryz.ntmps103
  go_wp2_with fail
  refine (ct_FArm 105 #[.pointer (some ⟨gb, 0, none⟩)] below11_eg _ _ A7 c7 s.arms (Kd.C_alloc HC.out _) (fun i => (fun a : Int × List FS => badL k a.2) (s.arms.getD i ((0, []) : Int × List FS))) (fun _ W2 => Below (W.alloc (.cells #[.int .i64 s.op, .string s.name, .int .i64 s.pos, .int .i64 s.fn, .slice A4 s.names.length c4, .int .i64 s.e.f0, .string s.e.f1, .int .i64 s.e.f2, .slice A8 s.e.f3.length c8, .slice A9 s.e.f4.length c9, .slice A6 s.args.length c6, .slice A7 s.arms.length c7] 41 (0, 0))).heap.size (W.alloc (.cells #[.int .i64 s.op, .string s.name, .int .i64 s.pos, .int .i64 s.fn, .slice A4 s.names.length c4, .int .i64 s.e.f0, .string s.e.f1, .int .i64 s.e.f2, .slice A8 s.e.f3.length c8, .slice A9 s.e.f4.length c9, .slice A6 s.args.length c6, .slice A7 s.arms.length c7] 41 (0, 0))) W2) (fun _ W2 => Below (W.alloc (.cells #[.int .i64 s.op, .string s.name, .int .i64 s.pos, .int .i64 s.fn, .slice A4 s.names.length c4, .int .i64 s.e.f0, .string s.e.f1, .int .i64 s.e.f2, .slice A8 s.e.f3.length c8, .slice A9 s.e.f4.length c9, .slice A6 s.args.length c6, .slice A7 s.arms.length c7] 41 (0, 0))).heap.size (W.alloc (.cells #[.int .i64 s.op, .string s.name, .int .i64 s.pos, .int .i64 s.fn, .slice A4 s.names.length c4, .int .i64 s.e.f0, .string s.e.f1, .int .i64 s.e.f2, .slice A8 s.e.f3.length c8, .slice A9 s.e.f4.length c9, .slice A6 s.args.length c6, .slice A7 s.arms.length c7] 41 (0, 0))) W2) (fun _ _ h => h) ?_ (Below.refl _ _)).mono ?_
  ·intro i W2 cs2 hi hI hK2
   refine (below11_calls k _ (HB.out _ (getD_mem hi _)) cs2 gb W2 (Kd.K_below _ hI hK2) (below_blk (blk_alloc HG.out _) hI)).mono ?_
   rintro e W3 ⟨rfl, hb3⟩
   exact ⟨rfl, fun _ => below_step hI hb3, fun _ => below_step hI hb3⟩
  ·intro e W2 hp
   obtain ⟨rfl, hI⟩ := CtPost.any (q := fun a : Int × List FS => badL k a.2) (z := ((0, []) : Int × List FS)) hp
   have HBB := Aside0.mk (below_step (below_alloc (Below.refl _ W) _) hI)
   clear hp hI x0 x1
   go_wp2_with fail
   go_ret
   exact ⟨by simp, HBB.out⟩
set_option maxHeartbeats 1000000 in
theorem below_calls (k : Int) : ∀ (l : List FS), Small l → BelowSays k l := by
 intro l hl
 induction hl with
 | mk l h1 h2 h3 ih =>
  intro w A c hC
  have HI := Aside0.mk ih
  have HC := Aside0.mk hC
  have hmf := run_mkfn
  clear h1 h2 h3 ih hC
  go_enter Tryz.func66, Tryz.ntmps66
  go_wp2_with fail
  refine (ct_FStmt 103 #[.pointer (some ⟨w.heap.size, 0, none⟩)] below1_eg _ _ A c l (Kd.C_alloc HC.out _) (fun i => (badS k) (l.getD i zFS)) (fun _ W2 => Below (w.alloc (.cells #[.int .i64 k] 3 (0, 0))).heap.size (w.alloc (.cells #[.int .i64 k] 3 (0, 0))) W2) (fun _ W2 => Below (w.alloc (.cells #[.int .i64 k] 3 (0, 0))).heap.size (w.alloc (.cells #[.int .i64 k] 3 (0, 0))) W2) (fun _ _ h => h) ?_ (Below.refl _ _)).mono ?_
  ·intro i W2 cs2 hi hI hK2
   refine (below1_calls k _ (HI.out _ (getD_mem hi _)) cs2 w.heap.size W2 (Kd.K_below _ hI hK2) (below_blk (blk_new w _) hI)).mono ?_
   rintro e W3 ⟨rfl, hb3⟩
   exact ⟨rfl, fun _ => below_step hI hb3, fun _ => below_step hI hb3⟩
  ·intro e W2 hp
   obtain ⟨rfl, hI⟩ := CtPost.any (q := badS k) (z := zFS) hp
   have HBB := Aside0.mk (below_step (below_alloc (Below.refl _ w) _) hI)
   clear hp hI
   go_wp2_with fail
   go_ret
   exact ⟨by rw [badL_any]; rfl, HBB.out⟩
end Go.Proofs.YticndoihkfbpoaaGreatDoor
