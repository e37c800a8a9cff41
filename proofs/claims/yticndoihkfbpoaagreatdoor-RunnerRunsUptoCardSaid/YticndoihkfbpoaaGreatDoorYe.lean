/- The memory of a runner: its cells in a block; a function that begins anew, in plain Lean. -/
import Derived.Test.YticndoihkfbpoaaGreatDoorVe
import Derived.Test.YticndoihkfbpoaaGreatDoorYd
namespace Go.Proofs.YticndoihkfbpoaaGreatDoor
open Go Go.RowKit Go.Lib Go.Proofs.YticndoihkfbpoaaGreatDoorW.PrintWords Go.Proofs.YticndoihkfbpoaaGreatDoor.PScope
set_option maxRecDepth 100000
set_option linter.unusedSimpArgs false
set_option linter.unusedVariables false
def memVals : List (Int × Bool) → List Value
 | [] => []
 | c :: r => .int .i64 c.1 :: .bool c.2 :: memVals r
theorem memVals_len : ∀ m : List (Int × Bool), (memVals m).length = 2 * m.length
 | [] => rfl
 | c :: r => by simp only [memVals, List.length_cons, memVals_len r]; omega
theorem memVals_get0 : ∀ (m : List (Int × Bool)) (i : Nat), (memVals m)[i * 2]? = m[i]?.map (fun c => Value.int .i64 c.1)
 | [], i => by simp [memVals]
 | c :: r, 0 => by simp [memVals]
 | c :: r, i + 1 => by
  rw [show (i + 1) * 2 = i * 2 + 1 + 1 by omega]
  simp only [memVals, List.getElem?_cons_succ]
  exact memVals_get0 r i
theorem memVals_get1 : ∀ (m : List (Int × Bool)) (i : Nat), (memVals m)[i * 2 + 1]? = m[i]?.map (fun c => Value.bool c.2)
 | [], i => by simp [memVals]
 | c :: r, 0 => by simp [memVals]
 | c :: r, i + 1 => by
  rw [show (i + 1) * 2 + 1 = i * 2 + 1 + 1 + 1 by omega]
  simp only [memVals, List.getElem?_cons_succ]
  exact memVals_get1 r i
theorem memVals_set : ∀ (m : List (Int × Bool)) (i : Nat) (v : Int) (o : Bool), ((memVals m).set (i * 2) (.int .i64 v)).set (i * 2 + 1) (.bool o) = memVals (m.set i (v, o))
 | [], i, v, o => by simp [memVals]
 | c :: r, 0, v, o => by simp [memVals]
 | c :: r, i + 1, v, o => by
  rw [show (i + 1) * 2 = i * 2 + 1 + 1 by omega]
  simp only [memVals, List.set_cons_succ]
  rw [memVals_set r i v o]
def MRow (w : World) (a : Addr) (m : List (Int × Bool)) : Prop := a = ⟨a.block, 0, none⟩ ∧ w.heap[a.block]? = some (.cells (memVals m).toArray 91 (0, 0))
theorem add_out {a : Addr} (h : a = ⟨a.block, 0, none⟩) (i j : Nat) : (⟨(a.add i).block, (a.add i).off + j, none⟩ : Addr) = ⟨a.block, i + j, none⟩ := by rw [add_zeroed h]
theorem MRow.cell0 {w : World} {a : Addr} {m : List (Int × Bool)} (h : MRow w a m) (i : Nat) (hi : i < m.length) : w.cell? (a.add (i * 2)) = some (.int .i64 (m.getD i (0, false)).1) := by
 rw [add_zeroed h.1, blk_cell h.2]
 rw [List.getElem?_toArray, memVals_get0, List.getD_eq_getElem?_getD, List.getElem?_eq_getElem hi]; rfl
theorem MRow.cell1 {w : World} {a : Addr} {m : List (Int × Bool)} (h : MRow w a m) (i : Nat) (hi : i < m.length) : w.cell? ⟨(a.add (i * 2)).block, (a.add (i * 2)).off + 1, none⟩ = some (.bool (m.getD i (0, false)).2) := by
 rw [add_out h.1, blk_cell h.2]
 rw [List.getElem?_toArray, memVals_get1, List.getD_eq_getElem?_getD, List.getElem?_eq_getElem hi]; rfl
theorem MRow.frozen0 {w : World} {a : Addr} {m : List (Int × Bool)} (h : MRow w a m) (i : Nat) : w.frozen? (a.add i) = false := by
 rw [add_zeroed h.1]; simp [World.frozen?, h.2]
theorem MRow.frozen1 {w : World} {a : Addr} {m : List (Int × Bool)} (h : MRow w a m) (i j : Nat) : w.frozen? ⟨(a.add i).block, (a.add i).off + j, none⟩ = false := by
 rw [add_out h.1]; simp [World.frozen?, h.2]
theorem MRow.set {w : World} {a : Addr} {m : List (Int × Bool)} (h : MRow w a m) (i : Nat) (v : Int) (o : Bool) : MRow ((w.setCell (a.add (i * 2)) (.int .i64 v)).setCell ⟨(a.add (i * 2)).block, (a.add (i * 2)).off + 1, none⟩ (.bool o)) a (m.set i (v, o)) := by
 refine ⟨h.1, ?_⟩
 rw [add_out h.1, add_zeroed h.1]
 have h1 := blk_put h.2 (i * 2) (.int .i64 v) rfl
 refine blk_put h1 (i * 2 + 1) (.bool o) ?_
 rw [← memVals_set]
 simp
theorem MRow.below {w w' : World} {a : Addr} {m : List (Int × Bool)} (h : MRow w a m) (hb : Below w.heap.size w w') : MRow w' a m := ⟨h.1, below_blk h.2 hb⟩
theorem MRow.lt {w : World} {a : Addr} {m : List (Int × Bool)} (h : MRow w a m) : a.block < w.heap.size := blk_lt h.2
theorem MRow.as {W w2 : World} {a : Addr} {m : List (Int × Bool)} {o' : Obj} (h : MRow W a m) (hg : (W.alloc o').grownBy w2 (some W.heap.size)) : MRow w2 a m := ⟨h.1, blk_as h.2 hg⟩
def zs (n : Nat) : List Value := (Builtin.zeroCells #[.int .i64 0, .bool false] n).toList
theorem zs_zero : zs 0 = [] := by simp [zs, Builtin.zeroCells]
theorem zs_get (n j : Nat) (h : j < n * 2) : (zs n)[j]? = some (if j % 2 = 0 then Value.int .i64 0 else .bool false) := by
 unfold zs Builtin.zeroCells
 simp [h]
 rcases Nat.mod_two_eq_zero_or_one j with e | e <;> rw [e] <;> rfl
theorem zs_len (n : Nat) : (zs n).length = n * 2 := by simp [zs, Builtin.zeroCells]
theorem zs_succ (n : Nat) : zs (n + 1) = .int .i64 0 :: .bool false :: zs n := by
 apply List.ext_getElem?
 intro j
 match j with
 | 0 => rw [zs_get _ _ (by omega)]; rfl
 | 1 => rw [zs_get _ _ (by omega)]; rfl
 | j + 2 =>
  rw [List.getElem?_cons_succ, List.getElem?_cons_succ]
  by_cases h : j < n * 2
  ·rw [zs_get _ _ (by omega), zs_get _ _ h, Nat.add_mod_right]
  ·rw [List.getElem?_eq_none (by rw [zs_len]; omega), List.getElem?_eq_none (by rw [zs_len]; omega)]
theorem memVals_zero : ∀ n : Nat, memVals (List.replicate n (0, false)) = zs n
 | 0 => by rw [zs_zero]; rfl
 | n + 1 => by rw [List.replicate_succ, memVals, memVals_zero n, zs_succ]
def clearM (m : List (Int × Bool)) (b : Nat) : Nat → List (Int × Bool)
 | 0 => m
 | n + 1 => clearM (m.set b (0, false)) (b + 1) n
theorem clearM_len : ∀ (n : Nat) (m : List (Int × Bool)) (b : Nat), (clearM m b n).length = m.length
 | 0, m, b => rfl
 | n + 1, m, b => by rw [clearM, clearM_len n, List.length_set]
theorem MRow.clear {a : Addr} : ∀ (n : Nat) {w : World} {m : List (Int × Bool)} (h : MRow w a m) (b : Nat), MRow (w.setCells a.block (b * 2) (zs n)) a (clearM m b n)
 | 0, w, m, h, b => by rw [zs_zero]; exact h
 | n + 1, w, m, h, b => by
  rw [zs_succ, World.setCells, World.setCells, clearM]
  have h1 := h.set b 0 false
  rw [add_out h.1, add_zeroed h.1] at h1
  have := MRow.clear n h1 (b + 1)
  rw [show (b + 1) * 2 = b * 2 + 1 + 1 by omega] at this
  exact this
theorem turned_setCells {S : Nat → Prop} {a : World} {g : Nat} (hg : S g) : ∀ (vs : List Value) (o : Nat) {b : World}, Turned S a b → Turned S a (b.setCells g o vs)
 | [], o, b, h => h
 | v :: r, o, b, h => turned_setCells hg r (o + 1) (h.set (p := ⟨g, o, none⟩) hg v)
def midAddr (a : Addr) (N lo : Nat) : Addr := if N = lo then a else a.add (lo * 2)
def clearW (w : World) (a : Addr) (lo n : Nat) : World := w.setCells a.block (lo * 2) (zs n)
theorem size_cell (w : World) : (sizeOf 91).run Tryz.prog w = .ok 2 w := by kernel_rfl
theorem zero_cell (w : World) : (zeroValue 91).run Tryz.prog w = .ok (.agg #[.int .i64 0, .bool false]) w := by kernel_rfl
theorem run_slice_mem (a : Addr) (N : Nat) (lo hi : Int) (h0 : 0 ≤ lo) (h1 : lo ≤ hi) (h2 : hi ≤ (N : Int)) (w : World) :
  (Instr.slice 78 (.slice (some a) N N) (some (.int .i64 lo)) (some (.int .i64 hi)) none).run Tryz.prog w = .ok (.slice (some (midAddr a N lo.toNat)) (hi.toNat - lo.toNat) (N - lo.toNat)) w := by
 have e1 : ((hi.toNat : Nat) : Int) = hi := by omega
 have c1 : (0 : Int) ≤ hi ∧ hi ≤ (N : Int) := ⟨by omega, h2⟩
 have c2 : (0 : Int) ≤ lo ∧ lo ≤ ((hi.toNat : Nat) : Int) := ⟨h0, by omega⟩
 unfold midAddr
 by_cases hN : N = lo.toNat
 ·simp [Instr.slice, Instr.sliceBounds, Instr.sliceBound, run_underlying Tryz.underlying78, size_cell, c1.1, c1.2, c2.1, c2.2, h0, h1, h2, hN, asIntOf]
  rw [if_pos (by omega), if_pos (by omega)]
 ·simp [Instr.slice, Instr.sliceBounds, Instr.sliceBound, run_underlying Tryz.underlying78, size_cell, c1.1, c1.2, c2.1, c2.2, h0, h1, h2, hN, asIntOf]
  intro hx
  omega
theorem run_clear_mem {w : World} {a : Addr} {m : List (Int × Bool)} (h : MRow w a m) (lo hi : Nat) (h1 : lo ≤ hi) (h2 : hi ≤ m.length) (c : Nat) (ty : TypeId) :
  (Builtin.clear_ #[78] ty #[.slice (some (midAddr a m.length lo)) (hi - lo) c]).run Tryz.prog w = .ok (.tuple #[]) (clearW w a lo (hi - lo)) := by
 rcases Nat.eq_zero_or_pos (hi - lo) with hz | hp
 ·rw [hz]
  unfold clearW
  rw [zs_zero]
  simp [Builtin.clear_, run_underlying Tryz.underlying78, World.setCells]
 ·have hm : midAddr a m.length lo = ⟨a.block, lo * 2, none⟩ := by
   unfold midAddr
   rw [if_neg (by omega), add_zeroed h.1]
  obtain ⟨k, hk⟩ : ∃ k, hi - lo = k + 1 := ⟨hi - lo - 1, by omega⟩
  have hst := run_storeCells_cells (P := Tryz.prog) a.block (lo * 2) (zs (hi - lo)) 0 w
   (fun j hj => by
    rw [zs_len] at hj
    rw [Nat.add_zero, blk_cell h.2, List.getElem?_toArray, List.getElem?_eq_getElem (by rw [memVals_len]; omega)]; rfl)
   (fun j hj => by simp [World.frozen?, h.2])
   (fun v hv => by
    obtain ⟨j, hj⟩ := List.getElem?_of_mem hv
    have hl := (List.getElem?_eq_some_iff.1 hj).1
    rw [zs_len] at hl
    rw [zs_get _ _ hl] at hj
    injection hj with hj
    rw [← hj]
    split <;> rfl)
  rw [hm]
  unfold clearW
  rw [Nat.add_zero] at hst
  rw [hk] at hst ⊢
  unfold zs at hst ⊢
  simp [Builtin.clear_, run_underlying Tryz.underlying78, zero_cell, show (Value.agg #[.int .i64 0, .bool false]).cells = #[.int .i64 0, .bool false] from rfl, hst]
def flagsM (base : Int) : List Int → List (Int × Bool) → List (Int × Bool)
 | [], m => m
 | n :: r, m => flagsM base r (m.set (base + n).toNat (1, true))
def partsM (A : Int → Int → List (Int × Bool) → List (Int × Bool)) (base : Int) : List S103 → List (Int × Bool) → List (Int × Bool)
 | [], m => m
 | p :: r, m => partsM A base r (A p.f1 (base + p.f0) m)
def anewF (l : List FF) : Nat → Int → Int → List (Int × Bool) → List (Int × Bool)
 | 0, _, _, m => m
 | d + 1, k, base, m => partsM (anewF l d) base (l.getD k.toNat zFF).parts (flagsM base (l.getD k.toNat zFF).flags (clearM m base.toNat (l.getD k.toNat zFF).cells.toNat))
theorem funOk {l : List FF} (h : flatOk l = true) {k : Nat} (hk : k < l.length) : funBad l k (l.getD k zFF) = false := by
 have hb : anyBad l 0 l = false := by
  unfold flatOk at h
  simp only [Bool.and_eq_true, Bool.not_eq_true'] at h
  exact h.1
 have key : ∀ (r : List FF) (j : Nat), anyBad l j r = false → ∀ i, i < r.length → funBad l (j + i) (r.getD i zFF) = false := by
  intro r
  induction r with
  | nil => intro j _ i hi; simp at hi
  | cons f r ih =>
   intro j hj i hi
   rw [anyBad, Bool.or_eq_false_iff] at hj
   cases i with
   | zero => exact hj.1
   | succ i =>
    have := ih (j + 1) hj.2 i (by simpa using hi)
    rw [show j + (i + 1) = j + 1 + i by omega]
    exact this
 have := key l 0 hb k hk
 rwa [Nat.zero_add] at this
structure FunOk (l : List FF) (k : Nat) (x : FF) : Prop where
 c0 : 0 ≤ x.cells
 c1 : x.cells ≤ 1000
 body : badL (k : Int) x.body = false
 flags : ∀ n ∈ x.flags, 0 ≤ n ∧ n < x.cells
 parts : ∀ p ∈ x.parts, 0 ≤ p.f1 ∧ p.f1 < (k : Int) ∧ 0 ≤ p.f0 ∧ p.f0 ≤ x.cells ∧ (l.getD p.f1.toNat zFF).cells ≤ x.cells - p.f0
theorem FunOk.of {l : List FF} {k : Nat} {x : FF} (h : funBad l k x = false) : FunOk l k x := by
 unfold funBad headBad at h
 simp only [Bool.or_eq_false_iff, decide_eq_false_iff_not, List.any_eq_false, Bool.not_eq_true] at h
 obtain ⟨⟨⟨⟨h0, h1⟩, h2⟩, h3⟩, h4⟩ := h
 refine ⟨by omega, by omega, h2, fun n hn => ?_, fun p hp => ?_⟩
 ·have := h3 n hn
  unfold flagBad at this
  simp only [Bool.or_eq_false_iff, decide_eq_false_iff_not] at this
  omega
 ·have := h4 p hp
  unfold partBad at this
  simp only [Bool.or_eq_false_iff, decide_eq_false_iff_not, cellsAt_getD] at this
  omega
def NumsPost (w : World) (xs : List Int) (e : Ending) (w' : World) : Prop := ∃ B cB, e = .returned (.slice B xs.length cB) ∧ (Kd.int .i64).C w' B xs.length xs ∧ Below w.heap.size w w'
theorem tsFrom_snoc (l : List FF) (kk : Nat) (h : kk < l.length) (ts : List Int) : tsFrom ts (l.drop kk) = tsFrom (ts ++ [1 + takL (rd0 ts) 0 (l.getD kk zFF).body]) (l.drop (kk + 1)) := by rw [drop_getD l kk h zFF, tsFrom]
theorem wsFrom_snoc (l : List FF) (kk : Nat) (h : kk < l.length) (ws : List Int) : wsFrom ws (l.drop kk) = wsFrom (ws ++ [wOf (rd0 ws) 1 (l.getD kk zFF).parts]) (l.drop (kk + 1)) := by rw [drop_getD l kk h zFF, wsFrom]
theorem take_cap {g : Int → Int} (hg : GOk g) {l : List FS} (hl : Small l) : min (1 + tkL g 0 l) 1001 = 1 + takL g 0 l := by
 have h := tk_tak hg hl 0 (by omega)
 rw [show min (0 : Int) 1000 = 0 by omega] at h
 omega
theorem info_int2 : (Tryz.prog.info? 3).map (fun i => (i.zero, i.size, i.bytes)) = some (some (.int .i64 0), 1, 8) := by kernel_rfl
set_option maxHeartbeats 4000000 in
theorem rTakes_calls (l : List FF) (hl : FlatSmall l) (hok : flatOk l = true) (w : World) (A : Option Addr) (c : Nat) (hC : kFF.C w A l.length l) : Calls Tryz.prog 47 #[.agg #[.slice A l.length c]] w (NumsPost w (tsFrom [] l)) := by
 have hba := below_alloc (Below.refl w.heap.size w) (.cells #[.slice A l.length c] 24)
 have BX := Aside0.mk (blk_new w (.cells #[.slice A l.length c] 24))
 have HC := Aside0.mk (Kd.C_below hC hba)
 have HB := Aside0.mk hba
 have HL := Aside0.mk hl
 have HOK := Aside0.mk hok
 have hmx := hl.len
 have HU := Aside0.mk Tryz.underlying32
 clear hl hok hC hba
 go_enter Tryz.func47, Tryz.ntmps47
 go_wp2_with fail
 obtain ⟨gx, hgx⟩ : ∃ gx, w.heap.size = gx := ⟨_, rfl⟩
 rw [hgx] at BX ⊢
 clear hgx
 generalize w.alloc (.cells #[.slice A l.length c] 24) = w1 at BX HC HB ⊢
 have HW := Aside0.mk (Below.refl w1.heap.size w1)
 have HRW := Aside0.mk (Kd.R_nil (Kd.int .i64) 3 w1 w1.heap.size (fun _ => True))
 go_loopg [3, 4] l.length (fun gg s3 s4 wr => ∃ (kk : Nat) (v3 : Value) (ts : List Int), kk ≤ l.length ∧ l.length - kk ≤ gg ∧ s4 = .int .i64 kk ∧ s3 = v3 ∧ Aside0 (Below w1.heap.size w1 wr) ∧ Aside0 ((Kd.int .i64).R 3 wr w1.heap.size (fun _ => True) v3 ts) ∧ Aside0 (ts.length = kk) ∧ Aside0 (WsOk ts) ∧ Aside0 (tsFrom ts (l.drop kk) = tsFrom [] l))
 case atStart => exact ⟨0, _, [], Nat.zero_le _, by omega, rfl, rfl, HW, HRW, ⟨rfl⟩, ⟨fun c hc => by cases hc⟩, ⟨rfl⟩⟩
 case round =>
  clear HW HRW
  obtain ⟨kk, v3, ts, hkk, hgk, rfl, rfl, HW, HRW, HTL, HOT, HTS⟩ := hrel
  obtain ⟨A5, c5, rfl⟩ := Kd.R_slice HRW.out
  have bx0 := (blk_cell (below_blk BX.out HW.out) 0).trans rfl
  by_cases hlt : kk < l.length
  ·have hltz : (kk : Int) < (l.length : Int) := by omega
   have HFO := Aside0.mk (FunOk.of (funOk HOK.out hlt))
   have HSM := Aside0.mk (HL.out.body _ (getD_mem hlt zFF))
   have HT1 := Aside0.mk (show tsFrom (ts ++ [1 + takL (rd0 ts) 0 (l.getD kk zFF).body]) (l.drop (kk + 1)) = tsFrom [] l by rw [← HTS.out, tsFrom_snoc l kk hlt])
   clear HTS
   obtain ⟨xad, xcs, rfl, _, xK, xcc⟩ := Kd.C_get HC.out zFF (kk : Int) (by omega) (by omega)
   have xK' := xK
   obtain ⟨xA0, xc0, xA1, xc1, xA3, xc3, xA4, xc4, xA5, xc5, rfl, xl0, xg0, xl1, xg1, xl3, xg3, xl4, xg4, xl5, xg5⟩ := kFF_open6 xK'
   have xx0 := (HW.out.cell (World.block_lt_of_cell? w1 _ (xcc 0 _ rfl))).trans (xcc 0 _ rfl)
   have xx1 := (HW.out.cell (World.block_lt_of_cell? w1 _ (xcc 1 _ rfl))).trans (xcc 1 _ rfl)
   have xx2 := (HW.out.cell (World.block_lt_of_cell? w1 _ (xcc 2 _ rfl))).trans (xcc 2 _ rfl)
   have xx3 := (HW.out.cell (World.block_lt_of_cell? w1 _ (xcc 3 _ rfl))).trans (xcc 3 _ rfl)
   have xx4 := (HW.out.cell (World.block_lt_of_cell? w1 _ (xcc 4 _ rfl))).trans (xcc 4 _ rfl)
   have xx5 := (HW.out.cell (World.block_lt_of_cell? w1 _ (xcc 5 _ rfl))).trans (xcc 5 _ rfl)
   rw [show (kFF).sz = 6 from rfl, Nat.add_zero, Int.toNat_natCast] at xx0
   rw [show (kFF).sz = 6 from rfl, Int.toNat_natCast, add_field _ _ 1 (by omega)] at xx1
   rw [show (kFF).sz = 6 from rfl, Int.toNat_natCast, add_field _ _ 2 (by omega)] at xx2
   rw [show (kFF).sz = 6 from rfl, Int.toNat_natCast, add_field _ _ 3 (by omega)] at xx3
   rw [show (kFF).sz = 6 from rfl, Int.toNat_natCast, add_field _ _ 4 (by omega)] at xx4
   rw [show (kFF).sz = 6 from rfl, Int.toNat_natCast, add_field _ _ 5 (by omega)] at xx5
   clear xcc
   try simp only [Int.toNat_natCast] at xx0 xx1 xx2 xx3 xx4 xx5 xK xl0 xg0 xl1 xg1 xl3 xg3 xl4 xg4 xl5 xg5
   generalize Yx0 : l.getD kk zFF = x at xx0 xx1 xx2 xx3 xx4 xx5 xK xl0 xg0 xl1 xg1 xl3 xg3 xl4 xg4 xl5 xg5
   have Yx := Aside0.mk Yx0; clear Yx0
   rw [Yx.out] at HFO HSM HT1
   have xL0 := Aside0.mk xl0; have xG0 := Aside0.mk xg0; clear xl0 xg0
   have xL1 := Aside0.mk xl1; have xG1 := Aside0.mk xg1; clear xl1 xg1
   have xL3 := Aside0.mk xl3; have xG3 := Aside0.mk xg3; clear xl3 xg3
   have xL4 := Aside0.mk xl4; have xG4 := Aside0.mk xg4; clear xl4 xg4
   have xL5 := Aside0.mk xl5; have xG5 := Aside0.mk xg5; clear xl5 xg5
   clear xK xx0 xx1 xx2 xx3 xx4
   have HRD := Aside0.mk (Kd.R_reads' HRW.out).2.2
   have hcall := rtakes_calls x.body HSM.out ts wr xA5 xc5 A5 c5 (Kd.C_below xG5.out HW.out) HRD.out HOT.out (by rw [HTL.out]; exact HFO.out.body)
   have HV := Aside0.mk (take_cap (HOT.out).g HSM.out)
   have HV0 := Aside0.mk (tkL_ok (HOT.out).g HSM.out 0 (by omega) (by omega))
   have HV1 := Aside0.mk (takL_ok (HOT.out).g HSM.out 0 (by omega) (by omega))
   rw [← HV.out] at HT1
   have HOT2 := Aside0.mk (HOT.out.snoc (c := min (1 + tkL (rd0 ts) 0 x.body) 1001) (by have := HV0.out; omega) (by omega))
   generalize tkL (rd0 ts) 0 x.body = r at HT1 hcall HV0 HOT2
   have hw1 : wrap64 (1 + r) = 1 + r := by have := HV0.out; unfold wrap64; omega
   clear HRD HV HV1
   go_wp2_with fail
   refine hcall.mono ?_
   rintro e w7 ⟨rfl, hb⟩
   replace HW := Aside0.mk (below_step HW.out hb)
   replace HRW := Aside0.mk (Kd.R_below HRW.out hb)
   clear hb hcall bx0 xx5
   go_wp2_with (at_builtin; refine Kd.R_append (Kd.int .i64) (w0 := w1) w1.heap.size rfl (.tmp 12) (.tmp 23) 32 3 (.int .i64 0) 8 rfl HU.out info_int2 rfl (by decide) (by omega) (.slice A5 ts.length c5) ts (min (1 + r) 1001) [.int .i64 (min (1 + r) 1001)] (fun _ => True) (fun _ => False) rfl rfl (show (Kd.int .i64).M _ _ _ (min (1 + r) 1001) [.int .i64 (min (1 + r) 1001)] from rfl) (fun k hk => hk.elim) (fun _ _ => trivial) HRW.out HW.out HW.out.size (by have := HTL.out; omega) ?_; intro v1 w8 hr8 hb8 hg8 hat8; have HRW8 := Aside0.mk hr8; have HW8 := Aside0.mk hb8; clear hr8 hg8 hat8 hb8 HRW HW)
   go_roundg (l.length - (kk + 1))
   case measure => omega
   case rel => exact ⟨kk + 1, v1, ts ++ [min (1 + r) 1001], by omega, by omega, by go_num, rfl, HW8, HRW8, ⟨by have := HTL.out; simp; omega⟩, HOT2, HT1⟩
  ·have hltz : ¬ (kk : Int) < (l.length : Int) := by omega
   obtain rfl : kk = l.length := by omega
   have HE := Aside0.mk (show ts = tsFrom [] l by have h := HTS.out; rw [List.drop_length] at h; rw [← h]; rfl)
   have HRD := Aside0.mk (Kd.R_reads' HRW.out).2.2
   have HBE := Aside0.mk (HB.out.trans (HW.out.mono HB.out.size))
   clear HTS HRW HW
   go_wp2_with fail
   go_ret
   rw [← HE.out]
   exact ⟨_, _, rfl, HRD.out, HBE.out⟩
set_option maxHeartbeats 4000000 in
theorem rWeighs_calls (l : List FF) (hl : FlatSmall l) (hok : flatOk l = true) (w : World) (A : Option Addr) (c : Nat) (hC : kFF.C w A l.length l) : Calls Tryz.prog 46 #[.agg #[.slice A l.length c]] w (NumsPost w (wsFrom [] l)) := by
 have hba := below_alloc (Below.refl w.heap.size w) (.cells #[.slice A l.length c] 24)
 have BX := Aside0.mk (blk_new w (.cells #[.slice A l.length c] 24))
 have HC := Aside0.mk (Kd.C_below hC hba)
 have HB := Aside0.mk hba
 have HL := Aside0.mk hl
 have HOK := Aside0.mk hok
 have hmx := hl.len
 have HU := Aside0.mk Tryz.underlying32
 clear hl hok hC hba
 go_enter Tryz.func46, Tryz.ntmps46
 go_wp2_with fail
 obtain ⟨gx, hgx⟩ : ∃ gx, w.heap.size = gx := ⟨_, rfl⟩
 rw [hgx] at BX ⊢
 clear hgx
 generalize w.alloc (.cells #[.slice A l.length c] 24) = w1 at BX HC HB ⊢
 have HW := Aside0.mk (Below.refl w1.heap.size w1)
 have HRW := Aside0.mk (Kd.R_nil (Kd.int .i64) 3 w1 w1.heap.size (fun _ => True))
 go_loopg [3, 4] l.length (fun gg s3 s4 wr => ∃ (kk : Nat) (v3 : Value) (ts : List Int), kk ≤ l.length ∧ l.length - kk ≤ gg ∧ s4 = .int .i64 kk ∧ s3 = v3 ∧ Aside0 (Below w1.heap.size w1 wr) ∧ Aside0 ((Kd.int .i64).R 3 wr w1.heap.size (fun _ => True) v3 ts) ∧ Aside0 (ts.length = kk) ∧ Aside0 (WsOk ts) ∧ Aside0 (wsFrom ts (l.drop kk) = wsFrom [] l))
 case atStart => exact ⟨0, _, [], Nat.zero_le _, by omega, rfl, rfl, HW, HRW, ⟨rfl⟩, ⟨fun c hc => by cases hc⟩, ⟨rfl⟩⟩
 case round =>
  clear HW HRW
  obtain ⟨kk, v3, ts, hkk, hgk, rfl, rfl, HW, HRW, HTL, HOT, HTS⟩ := hrel
  obtain ⟨A5, c5, rfl⟩ := Kd.R_slice HRW.out
  have bx0 := (blk_cell (below_blk BX.out HW.out) 0).trans rfl
  by_cases hlt : kk < l.length
  ·have hltz : (kk : Int) < (l.length : Int) := by omega
   have HFO := Aside0.mk (FunOk.of (funOk HOK.out hlt))
   have HT1 := Aside0.mk (show wsFrom (ts ++ [wOf (rd0 ts) 1 (l.getD kk zFF).parts]) (l.drop (kk + 1)) = wsFrom [] l by rw [← HTS.out, wsFrom_snoc l kk hlt])
   clear HTS
   obtain ⟨xad, xcs, rfl, _, xK, xcc⟩ := Kd.C_get HC.out zFF (kk : Int) (by omega) (by omega)
   have xK' := xK
   obtain ⟨xA0, xc0, xA1, xc1, xA3, xc3, xA4, xc4, xA5, xc5, rfl, xl0, xg0, xl1, xg1, xl3, xg3, xl4, xg4, xl5, xg5⟩ := kFF_open6 xK'
   have xx0 := (HW.out.cell (World.block_lt_of_cell? w1 _ (xcc 0 _ rfl))).trans (xcc 0 _ rfl)
   have xx1 := (HW.out.cell (World.block_lt_of_cell? w1 _ (xcc 1 _ rfl))).trans (xcc 1 _ rfl)
   have xx2 := (HW.out.cell (World.block_lt_of_cell? w1 _ (xcc 2 _ rfl))).trans (xcc 2 _ rfl)
   have xx3 := (HW.out.cell (World.block_lt_of_cell? w1 _ (xcc 3 _ rfl))).trans (xcc 3 _ rfl)
   have xx4 := (HW.out.cell (World.block_lt_of_cell? w1 _ (xcc 4 _ rfl))).trans (xcc 4 _ rfl)
   have xx5 := (HW.out.cell (World.block_lt_of_cell? w1 _ (xcc 5 _ rfl))).trans (xcc 5 _ rfl)
   rw [show (kFF).sz = 6 from rfl, Nat.add_zero, Int.toNat_natCast] at xx0
   rw [show (kFF).sz = 6 from rfl, Int.toNat_natCast, add_field _ _ 1 (by omega)] at xx1
   rw [show (kFF).sz = 6 from rfl, Int.toNat_natCast, add_field _ _ 2 (by omega)] at xx2
   rw [show (kFF).sz = 6 from rfl, Int.toNat_natCast, add_field _ _ 3 (by omega)] at xx3
   rw [show (kFF).sz = 6 from rfl, Int.toNat_natCast, add_field _ _ 4 (by omega)] at xx4
   rw [show (kFF).sz = 6 from rfl, Int.toNat_natCast, add_field _ _ 5 (by omega)] at xx5
   clear xcc
   try simp only [Int.toNat_natCast] at xx0 xx1 xx2 xx3 xx4 xx5 xK xl0 xg0 xl1 xg1 xl3 xg3 xl4 xg4 xl5 xg5
   generalize Yx0 : l.getD kk zFF = x at xx0 xx1 xx2 xx3 xx4 xx5 xK xl0 xg0 xl1 xg1 xl3 xg3 xl4 xg4 xl5 xg5
   have Yx := Aside0.mk Yx0; clear Yx0
   rw [Yx.out] at HFO HT1
   have xL0 := Aside0.mk xl0; have xG0 := Aside0.mk xg0; clear xl0 xg0
   have xL1 := Aside0.mk xl1; have xG1 := Aside0.mk xg1; clear xl1 xg1
   have xL3 := Aside0.mk xl3; have xG3 := Aside0.mk xg3; clear xl3 xg3
   have xL4 := Aside0.mk xl4; have xG4 := Aside0.mk xg4; clear xl4 xg4
   have xL5 := Aside0.mk xl5; have xG5 := Aside0.mk xg5; clear xl5 xg5
   clear xK xx0 xx1 xx2 xx3 xx5
   have HRD := Aside0.mk (Kd.R_reads' HRW.out).2.2
   have htl := HTL.out
   have hpm : x.parts.length ≤ 9223372036854775807 := (xG4.out).2.1
   go_wp2_with fail
   go_loopg [5, 6] x.parts.length (fun gg s5 s6 w2 => ∃ (jj : Nat) (n : Int), jj ≤ x.parts.length ∧ x.parts.length - jj ≤ gg ∧ s6 = .int .i64 jj ∧ s5 = .int .i64 n ∧ w2 = wr ∧ Aside0 (0 ≤ n ∧ n ≤ 1001) ∧ Aside0 (wOf (rd0 ts) n (x.parts.drop jj) = wOf (rd0 ts) 1 x.parts))
   case atStart => exact ⟨0, 1, Nat.zero_le _, by omega, rfl, rfl, rfl, ⟨by omega⟩, ⟨rfl⟩⟩
   case round =>
    obtain ⟨jj, n, hjj, hgj, rfl, rfl, rfl, HN, HWO⟩ := hrel
    by_cases hltj : jj < x.parts.length
    ·have hltzj : (jj : Int) < (x.parts.length : Int) := by omega
     have HPO := Aside0.mk (HFO.out.parts _ (getD_mem hltj z103))
     have HW1 := Aside0.mk (show wOf (rd0 ts) (min (n + rd0 ts (x.parts.getD jj z103).f1) 1001) (x.parts.drop (jj + 1)) = wOf (rd0 ts) 1 x.parts by rw [← HWO.out, drop_getD x.parts jj hltj z103, wOf])
     clear HWO
     obtain ⟨qad, qcs, rfl, _, qK, qcc⟩ := Kd.C_get xG4.out z103 (jj : Int) (by omega) (by omega)
     have qK' := qK
     obtain rfl := k103_open qK'
     have qx0 := (HW.out.cell (World.block_lt_of_cell? w1 _ (qcc 0 _ rfl))).trans (qcc 0 _ rfl)
     have qx1 := (HW.out.cell (World.block_lt_of_cell? w1 _ (qcc 1 _ rfl))).trans (qcc 1 _ rfl)
     rw [show (kPt).sz = 2 from rfl, Nat.add_zero, Int.toNat_natCast] at qx0
     rw [show (kPt).sz = 2 from rfl, Int.toNat_natCast, add_field _ _ 1 (by omega)] at qx1
     clear qcc
     try simp only [Int.toNat_natCast] at qx0 qx1 qK
     generalize Yp0 : x.parts.getD jj z103 = p at qx0 qx1 qK
     have Yp := Aside0.mk Yp0; clear Yp0
     rw [Yp.out] at HPO HW1
     have hp0 := HPO.out.1
     have hp1 : p.f1 < (ts.length : Int) := by have := HPO.out.2.1; omega
     obtain ⟨tad, tcs, rfl, _, tK, tcc⟩ := Kd.C_get HRD.out (0 : Int) p.f1 (by omega) (by omega)
     obtain rfl := tK
     have tx0 := ((Below.refl wr.heap.size wr).cell (World.block_lt_of_cell? wr _ (tcc 0 _ rfl))).trans (tcc 0 _ rfl)
     simp only [show (Kd.int .i64).sz = 1 from rfl, Nat.mul_one, Nat.add_zero] at tx0
     clear tcc
     generalize Yt0 : ts.getD p.f1.toNat (0 : Int) = t at tx0
     have Yt := Aside0.mk Yt0; clear Yt0
     have Yt2 := Aside0.mk (show rd0 ts p.f1 = t from Yt.out)
     rw [Yt2.out] at HW1
     have HG := Aside0.mk (show 0 ≤ t ∧ t ≤ 1001 by rw [← Yt2.out]; exact (HOT.out).g p.f1)
     have hw1 : wrap64 (n + t) = n + t := by have := HN.out; have := HG.out; unfold wrap64; omega
     go_wp2_with fail
     go_roundg (x.parts.length - (jj + 1))
     case measure => omega
     case rel => exact ⟨jj + 1, min (n + t) 1001, by omega, by omega, by go_num, by first | rfl | (rw [hw1]), rfl, ⟨by have := HN.out; have := HG.out; omega⟩, HW1⟩
    ·have hltzj : ¬ (jj : Int) < (x.parts.length : Int) := by omega
     obtain rfl : jj = x.parts.length := by omega
     have HNE := Aside0.mk (show n = wOf (rd0 ts) 1 x.parts by have h := HWO.out; rw [List.drop_length, wOf] at h; exact h)
     rw [← HNE.out] at HT1
     have HOT2 := Aside0.mk (HOT.out.snoc (c := n) HN.out.1 HN.out.2)
     clear HRD HWO HNE htl
     go_wp2_with (at_builtin; refine Kd.R_append (Kd.int .i64) (w0 := w1) w1.heap.size rfl (.tmp 41) (.tmp 43) 32 3 (.int .i64 0) 8 rfl HU.out info_int2 rfl (by decide) (by omega) (.slice A5 ts.length c5) ts n [.int .i64 n] (fun _ => True) (fun _ => False) rfl rfl (show (Kd.int .i64).M _ _ _ n [.int .i64 n] from rfl) (fun k hk => hk.elim) (fun _ _ => trivial) HRW.out HW.out HW.out.size (by have := HTL.out; omega) ?_; intro v1 w8 hr8 hb8 hg8 hat8; have HRW8 := Aside0.mk hr8; have HW8 := Aside0.mk hb8; clear hr8 hg8 hat8 hb8 HRW HW)
     go_roundg (l.length - (kk + 1))
     case measure => omega
     case rel => exact ⟨kk + 1, v1, ts ++ [n], by omega, by omega, by go_num, rfl, HW8, HRW8, ⟨by have := HTL.out; simp; omega⟩, HOT2, HT1⟩
  ·have hltz : ¬ (kk : Int) < (l.length : Int) := by omega
   obtain rfl : kk = l.length := by omega
   have HE := Aside0.mk (show ts = wsFrom [] l by have h := HTS.out; rw [List.drop_length] at h; rw [← h]; rfl)
   have HRD := Aside0.mk (Kd.R_reads' HRW.out).2.2
   have HBE := Aside0.mk (HB.out.trans (HW.out.mono HB.out.size))
   clear HTS HRW HW
   go_wp2_with fail
   go_ret
   rw [← HE.out]
   exact ⟨_, _, rfl, HRD.out, HBE.out⟩
end Go.Proofs.YticndoihkfbpoaaGreatDoor
