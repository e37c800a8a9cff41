/- The reference's runner: its memory, its block. -/
import Derived.Test.YticndoihkfbpoaaGreatDoorVg
namespace Go.Proofs.YticndoihkfbpoaaGreatDoor
open Go Go.RowKit Go.Lib Go.Proofs.YticndoihkfbpoaaGreatDoorW.PrintWords Go.Proofs.YticndoihkfbpoaaGreatDoor.PScope
set_option maxRecDepth 100000
set_option linter.unusedSimpArgs false
set_option linter.unusedVariables false
def memValsR : List (Int × Bool) → List Value
 | [] => []
 | c :: r => .bool c.2 :: .int .i64 c.1 :: memValsR r
theorem memValsR_get0 : ∀ (m : List (Int × Bool)) (i : Nat), (memValsR m)[i * 2]? = m[i]?.map (fun c => Value.bool c.2)
 | [], i => by simp [memValsR]
 | c :: r, 0 => by simp [memValsR]
 | c :: r, i + 1 => by
  rw [show (i + 1) * 2 = i * 2 + 1 + 1 by omega]
  simp only [memValsR, List.getElem?_cons_succ]
  exact memValsR_get0 r i
theorem memValsR_get1 : ∀ (m : List (Int × Bool)) (i : Nat), (memValsR m)[i * 2 + 1]? = m[i]?.map (fun c => Value.int .i64 c.1)
 | [], i => by simp [memValsR]
 | c :: r, 0 => by simp [memValsR]
 | c :: r, i + 1 => by
  rw [show (i + 1) * 2 + 1 = i * 2 + 1 + 1 + 1 by omega]
  simp only [memValsR, List.getElem?_cons_succ]
  exact memValsR_get1 r i
theorem memValsR_set : ∀ (m : List (Int × Bool)) (i : Nat) (v : Int) (o : Bool), ((memValsR m).set (i * 2) (.bool o)).set (i * 2 + 1) (.int .i64 v) = memValsR (m.set i (v, o))
 | [], i, v, o => by simp [memValsR]
 | c :: r, 0, v, o => by simp [memValsR]
 | c :: r, i + 1, v, o => by
  rw [show (i + 1) * 2 = i * 2 + 1 + 1 by omega]
  simp only [memValsR, List.set_cons_succ]
  rw [memValsR_set r i v o]
def MRowR (w : World) (a : Addr) (m : List (Int × Bool)) : Prop := a = ⟨a.block, 0, none⟩ ∧ w.heap[a.block]? = some (.cells (memValsR m).toArray 93 (0, 0))
theorem MRowR.cell0 {w : World} {a : Addr} {m : List (Int × Bool)} (h : MRowR w a m) (i : Nat) (hi : i < m.length) : w.cell? (a.add (i * 2)) = some (.bool (m.getD i (0, false)).2) := by
 rw [add_zeroed h.1, blk_cell h.2]
 rw [List.getElem?_toArray, memValsR_get0, List.getD_eq_getElem?_getD, List.getElem?_eq_getElem hi]; rfl
theorem MRowR.cell1 {w : World} {a : Addr} {m : List (Int × Bool)} (h : MRowR w a m) (i : Nat) (hi : i < m.length) : w.cell? ⟨(a.add (i * 2)).block, (a.add (i * 2)).off + 1, none⟩ = some (.int .i64 (m.getD i (0, false)).1) := by
 rw [add_out h.1, blk_cell h.2]
 rw [List.getElem?_toArray, memValsR_get1, List.getD_eq_getElem?_getD, List.getElem?_eq_getElem hi]; rfl
theorem MRowR.frozen0 {w : World} {a : Addr} {m : List (Int × Bool)} (h : MRowR w a m) (i : Nat) : w.frozen? (a.add i) = false := by
 rw [add_zeroed h.1]; simp [World.frozen?, h.2]
theorem MRowR.frozen1 {w : World} {a : Addr} {m : List (Int × Bool)} (h : MRowR w a m) (i j : Nat) : w.frozen? ⟨(a.add i).block, (a.add i).off + j, none⟩ = false := by
 rw [add_out h.1]; simp [World.frozen?, h.2]
theorem MRowR.set {w : World} {a : Addr} {m : List (Int × Bool)} (h : MRowR w a m) (i : Nat) (v : Int) (o : Bool) : MRowR ((w.setCell (a.add (i * 2)) (.bool o)).setCell ⟨(a.add (i * 2)).block, (a.add (i * 2)).off + 1, none⟩ (.int .i64 v)) a (m.set i (v, o)) := by
 refine ⟨h.1, ?_⟩
 rw [add_out h.1, add_zeroed h.1]
 have h1 := blk_put h.2 (i * 2) (.bool o) rfl
 refine blk_put h1 (i * 2 + 1) (.int .i64 v) ?_
 rw [← memValsR_set]
 simp
theorem MRowR.below {w w' : World} {a : Addr} {m : List (Int × Bool)} (h : MRowR w a m) (hb : Below w.heap.size w w') : MRowR w' a m := ⟨h.1, below_blk h.2 hb⟩
theorem MRowR.turned2 {S : Nat → Prop} {w0 W : World} {a : Addr} {m : List (Int × Bool)} (h : MRowR W a m) (ht : Turned S w0 W) (hs : S a.block) (i : Nat) (u v : Value) : Turned S w0 ((W.setCell (a.add i) u).setCell ⟨(a.add i).block, (a.add i).off + 1, none⟩ v) :=
 (ht.set (by rw [add_block h.1]; exact hs) u).set (p := ⟨(a.add i).block, (a.add i).off + 1, none⟩) (by show S (a.add i).block; rw [add_block h.1]; exact hs) v
theorem MRowR.far2 {W : World} {a : Addr} {m : List (Int × Bool)} (h : MRowR W a m) {g : Nat} {t : TypeId} {cs : Array Value} (hb : W.heap[g]? = some (.cells cs t (0, 0))) (hne : g ≠ a.block) (i : Nat) (u v : Value) : ((W.setCell (a.add i) u).setCell ⟨(a.add i).block, (a.add i).off + 1, none⟩ v).heap[g]? = some (.cells cs t (0, 0)) :=
 blk_far (blk_far hb (p := a.add i) (by rw [add_block h.1]; exact hne) u) (p := ⟨(a.add i).block, (a.add i).off + 1, none⟩) (by show g ≠ (a.add i).block; rw [add_block h.1]; exact hne) v
theorem MRowR.cell1s {w : World} {a : Addr} {m : List (Int × Bool)} (h : MRowR w a m) (i : Nat) (hi : i < m.length) (u : Value) : (w.setCell (a.add (i * 2)) u).cell? ⟨(a.add (i * 2)).block, (a.add (i * 2)).off + 1, none⟩ = some (.int .i64 (m.getD i (0, false)).1) := by
 have h1 := h.cell1 i hi
 rw [add_out h.1] at h1 ⊢
 rw [add_zeroed h.1, blk_cell (blk_put h.2 (i * 2) u rfl)]
 rw [blk_cell h.2] at h1
 rw [Array.getElem?_setIfInBounds_ne (by omega)]
 exact h1
theorem MRowR.frozen1s {w : World} {a : Addr} {m : List (Int × Bool)} (h : MRowR w a m) (i : Nat) (u : Value) : (w.setCell (a.add (i * 2)) u).frozen? ⟨(a.add (i * 2)).block, (a.add (i * 2)).off + 1, none⟩ = false := by
 rw [add_out h.1, add_zeroed h.1]
 simp [World.frozen?, blk_put h.2 (i * 2) u rfl]
structure RAtR (w0 w : World) (g : Nat) (ma : Addr) (A : Option Addr) (c : Nat) (l : List FF) (N : Nat) (m : List (Int × Bool)) (tr : Bool) (cn : Int) : Prop where
 blk : w.heap[g]? = some (.cells #[.slice A l.length c, .slice (some ma) N N, .bool tr, .int .i64 cn] 56 (0, 0))
 mem : MRowR w ma m
 len : m.length = N
 few : N ≤ 1000
 hg : w0.heap.size ≤ g
 hb : w0.heap.size ≤ ma.block
 ne : g ≠ ma.block
 below : Below w0.heap.size w0 w
section
variable {w0 w w' : World} {g : Nat} {ma : Addr} {A : Option Addr} {c : Nat} {l : List FF} {N : Nat} {m : List (Int × Bool)} {tr : Bool} {cn : Int}
theorem RAtR.below' (h : RAtR w0 w g ma A c l N m tr cn) (hb : Below w.heap.size w w') : RAtR w0 w' g ma A c l N m tr cn :=
 ⟨below_blk h.blk hb, h.mem.below hb, h.len, h.few, h.hg, h.hb, h.ne, below_step h.below hb⟩
theorem RAtR.trap (h : RAtR w0 w g ma A c l N m tr cn) (t : Bool) : RAtR w0 (w.setCell ⟨g, 2, none⟩ (.bool t)) g ma A c l N m t cn :=
 ⟨blk_put h.blk 2 (.bool t) rfl, ⟨h.mem.1, blk_far h.mem.2 (p := ⟨g, 2, none⟩) (fun e => h.ne e.symm) _⟩, h.len, h.few, h.hg, h.hb, h.ne, below_set h.below h.hg⟩
theorem RAtR.countS (h : RAtR w0 w g ma A c l N m tr cn) (v : Int) : RAtR w0 (w.setCell ⟨g, 3, none⟩ (.int .i64 v)) g ma A c l N m tr v :=
 ⟨blk_put h.blk 3 (.int .i64 v) rfl, ⟨h.mem.1, blk_far h.mem.2 (p := ⟨g, 3, none⟩) (fun e => h.ne e.symm) _⟩, h.len, h.few, h.hg, h.hb, h.ne, below_set h.below h.hg⟩
theorem RAtR.keep (h : RAtR w0 w g ma A c l N m tr cn) (i : Nat) (c0 : Int × Bool) : RAtR w0 ((w.setCell (ma.add (i * 2)) (.bool c0.2)).setCell ⟨(ma.add (i * 2)).block, (ma.add (i * 2)).off + 1, none⟩ (.int .i64 c0.1)) g ma A c l N (m.set i c0) tr cn := by
 have hs := h.mem.set i c0.1 c0.2
 have ha : ma.add (i * 2) = ⟨ma.block, i * 2, none⟩ := add_zeroed h.mem.1 _
 rw [ha] at hs ⊢
 exact ⟨blk_far (blk_far h.blk (p := ⟨ma.block, i * 2, none⟩) h.ne _) (p := ⟨ma.block, i * 2 + 1, none⟩) h.ne _, hs, by simp [h.len], h.few, h.hg, h.hb, h.ne, below_set (below_set h.below h.hb) h.hb⟩
end
def RAnewPost (l : List FF) (d : Nat) (w0 : World) (g : Nat) (ma : Addr) (A : Option Addr) (c N : Nat) (tr : Bool) (cn k base : Int) (m : List (Int × Bool)) (w : World) (e : Ending) (w' : World) : Prop :=
 ((0 ≤ base ∧ base ≤ (N : Int) ∧ (l.getD k.toNat zFF).cells ≤ (N : Int) - base) → e = .returned (.bool true) ∧ RAtR w0 w' g ma A c l N (anewF l d k base m) tr cn) ∧
 (¬ (0 ≤ base ∧ base ≤ (N : Int) ∧ (l.getD k.toNat zFF).cells ≤ (N : Int) - base) → e = .returned (.bool false) ∧ RAtR w0 w' g ma A c l N m tr cn) ∧ Turned (fun b => b = ma.block) w w'
def RAnewSays (l : List FF) (d : Nat) (w0 : World) (g : Nat) (ma : Addr) (A : Option Addr) (c N : Nat) (tr : Bool) (cn : Int) : Prop :=
 ∀ (k base : Int) (m : List (Int × Bool)) (w : World), RAtR w0 w g ma A c l N m tr cn → 0 ≤ k → k < (d : Int) → k < (l.length : Int) →
  Calls Tryz.prog 48 #[.pointer (some ⟨g, 0, none⟩), .int .i64 k, .int .i64 base] w (RAnewPost l d w0 g ma A c N tr cn k base m w)
theorem ranew_yes {l : List FF} {d : Nat} {w0 w w' : World} {g : Nat} {ma : Addr} {A : Option Addr} {c N : Nat} {tr : Bool} {cn k base : Int} {m R : List (Int × Bool)} (hc : 0 ≤ base ∧ base ≤ (N : Int) ∧ (l.getD k.toNat zFF).cells ≤ (N : Int) - base) (hA : anewF l d k base m = R) (hr : RAtR w0 w' g ma A c l N R tr cn) (ht : Turned (fun b => b = ma.block) w w') : RAnewPost l d w0 g ma A c N tr cn k base m w (.returned (.bool true)) w' :=
 ⟨fun _ => ⟨rfl, by rw [hA]; exact hr⟩, fun h => absurd hc h, ht⟩
theorem ranew_no {l : List FF} {d : Nat} {w0 w w' : World} {g : Nat} {ma : Addr} {A : Option Addr} {c N : Nat} {tr : Bool} {cn k base : Int} {m : List (Int × Bool)} (hc : ¬ (0 ≤ base ∧ base ≤ (N : Int) ∧ (l.getD k.toNat zFF).cells ≤ (N : Int) - base)) (hr : RAtR w0 w' g ma A c l N m tr cn) (ht : Turned (fun b => b = ma.block) w w') : RAnewPost l d w0 g ma A c N tr cn k base m w (.returned (.bool false)) w' :=
 ⟨fun h => absurd h hc, fun _ => ⟨rfl, hr⟩, ht⟩
set_option maxHeartbeats 8000000 in
theorem ranew_calls (l : List FF) (hok : flatOk l = true) (hm : l.length ≤ 9223372036854775807) (w0 : World) (g : Nat) (ma : Addr) (A : Option Addr) (c N : Nat) (tr : Bool) (cn : Int) (hC : kFF.C w0 A l.length l) : ∀ d, RAnewSays l d w0 g ma A c N tr cn := by
 intro d
 induction d with
 | zero => intro k base m w hR h0 h1; omega
 | succ d ih =>
  intro k base m w hR h0 h1 h2
  have HI := Aside0.mk ih
  have HC := Aside0.mk hC
  have HR := Aside0.mk hR
  have hfew := hR.few
  have HT := Aside0.mk (Turned.refl (fun b => b = ma.block) w)
  have HOK := Aside0.mk (funOk hok (k := k.toNat) (by omega))
  have HK := Aside0.mk (And.intro h0 (And.intro h1 h2))
  have g0 := (blk_cell hR.blk 0).trans rfl
  clear ih hC hok hR
  obtain ⟨ead, ecs, rfl, _, eK, ecc⟩ := Kd.C_get HC.out zFF k (by omega) (by omega)
  have eK' := eK
  obtain ⟨eA0, ec0, eA1, ec1, eA3, ec3, eA4, ec4, eA5, ec5, rfl, el0, eg0, el1, eg1, el3, eg3, el4, eg4, el5, eg5⟩ := kFF_open6 eK'
  have ex0 := (HR.out.below.cell (World.block_lt_of_cell? w0 _ (ecc 0 _ rfl))).trans (ecc 0 _ rfl)
  have ex1 := (HR.out.below.cell (World.block_lt_of_cell? w0 _ (ecc 1 _ rfl))).trans (ecc 1 _ rfl)
  have ex2 := (HR.out.below.cell (World.block_lt_of_cell? w0 _ (ecc 2 _ rfl))).trans (ecc 2 _ rfl)
  have ex3 := (HR.out.below.cell (World.block_lt_of_cell? w0 _ (ecc 3 _ rfl))).trans (ecc 3 _ rfl)
  have ex4 := (HR.out.below.cell (World.block_lt_of_cell? w0 _ (ecc 4 _ rfl))).trans (ecc 4 _ rfl)
  have ex5 := (HR.out.below.cell (World.block_lt_of_cell? w0 _ (ecc 5 _ rfl))).trans (ecc 5 _ rfl)
  rw [show (kFF).sz = 6 from rfl, Nat.add_zero] at ex0
  rw [show (kFF).sz = 6 from rfl, add_field _ _ 1 (by omega)] at ex1
  rw [show (kFF).sz = 6 from rfl, add_field _ _ 2 (by omega)] at ex2
  rw [show (kFF).sz = 6 from rfl, add_field _ _ 3 (by omega)] at ex3
  rw [show (kFF).sz = 6 from rfl, add_field _ _ 4 (by omega)] at ex4
  rw [show (kFF).sz = 6 from rfl, add_field _ _ 5 (by omega)] at ex5
  clear ecc
  generalize Yx0 : l.getD k.toNat zFF = x at ex0 ex1 ex2 ex3 ex4 ex5 eK el0 eg0 el1 eg1 el3 eg3 el4 eg4 el5 eg5
  have Yx := Aside0.mk Yx0; clear Yx0
  rw [Yx.out] at HOK
  have eL0 := Aside0.mk el0; have eG0 := Aside0.mk eg0; clear el0 eg0
  have eL1 := Aside0.mk el1; have eG1 := Aside0.mk eg1; clear el1 eg1
  have eL3 := Aside0.mk el3; have eG3 := Aside0.mk eg3; clear el3 eg3
  have eL4 := Aside0.mk el4; have eG4 := Aside0.mk eg4; clear el4 eg4
  have eL5 := Aside0.mk el5; have eG5 := Aside0.mk eg5; clear el5 eg5
  clear eK
  have HFO := Aside0.mk (FunOk.of HOK.out)
  have HAN := Aside0.mk (show anewF l (d + 1) k base m = partsM (anewF l d) base x.parts (flagsM base x.flags (clearM m base.toNat x.cells.toNat)) by rw [anewF, Yx.out])
  clear HOK
  have hcc0 := HFO.out.c0
  have hcc1 := HFO.out.c1
  go_enter Tryz.func48, Tryz.ntmps48
  go_upto_region 2 with ((with_reducible refine gate_store (t := 35) (p := 7) rfl ?_); refine store_whole rfl rfl 35 _ _ rfl w.heap.size _ 35 rfl (blk_new _ _) _ rfl rfl rfl (by simp [Value.oneCell']) ?_; intro w2 hb2 hg2; have HBA := Aside0.mk (below_as (Below.refl w.heap.size w) hg2); have NEM := Aside0.mk (show w.heap.size ≠ ma.block from fun e => by have := blk_lt HR.out.mem.2; omega); replace HR := Aside0.mk (HR.out.below' HBA.out); replace HT := Aside0.mk (turned_as HT.out hg2); obtain ⟨ge, hq_⟩ : ∃ g_, g_ = w.heap.size := ⟨_, rfl⟩; rw [← hq_] at hb2 NEM; rw [← hq_]; have BE := Aside0.mk hb2; clear hb2 hg2 hq_ HBA)
  clear g0 ex0 ex1 ex2 ex3 ex4 ex5
  have g1 := (blk_cell HR.out.blk 1).trans rfl
  have ce_2 := (blk_cell BE.out 2).trans rfl
  skip
  by_cases b0 : base < 0
  ·have d0 : decide (base < 0) = true := decide_eq_true b0
   have HNO := Aside0.mk (show ¬ (0 ≤ base ∧ base ≤ (N : Int) ∧ (l.getD k.toNat zFF).cells ≤ (N : Int) - base) by rw [Yx.out]; omega)
   clear b0
   go_quiet (fail)
   clear g1 ce_2
   have HD := pw_below_drewN (Below.refl w2.heap.size w2) nq
   go_wp2_with fail
   go_ret
   exact ranew_no HNO.out (HR.out.below' HD) (HT.out.step HD)
  have d0 : decide (base < 0) = false := decide_eq_false b0
  by_cases b1 : base > (N : Int)
  ·have d1 : decide (base > (N : Int)) = true := decide_eq_true b1
   have HNO := Aside0.mk (show ¬ (0 ≤ base ∧ base ≤ (N : Int) ∧ (l.getD k.toNat zFF).cells ≤ (N : Int) - base) by rw [Yx.out]; omega)
   clear b0 b1
   go_quiet (fail)
   clear g1 ce_2
   have HD := pw_below_drewN (Below.refl w2.heap.size w2) nq
   go_wp2_with fail
   go_ret
   exact ranew_no HNO.out (HR.out.below' HD) (HT.out.step HD)
  have d1 : decide (base > (N : Int)) = false := decide_eq_false b1
  have hw1 : wrap64 ((N : Int) - base) = (N : Int) - base := by unfold wrap64; omega
  have hw2 : IntKind.i64.wrap ((N : Int) - base) = (N : Int) - base := by rw [wrapEq]; exact hw1
  by_cases b2 : x.cells > (N : Int) - base
  ·have d2 : decide (x.cells > (N : Int) - base) = true := decide_eq_true b2
   have HNO := Aside0.mk (show ¬ (0 ≤ base ∧ base ≤ (N : Int) ∧ (l.getD k.toNat zFF).cells ≤ (N : Int) - base) by rw [Yx.out]; omega)
   clear b0 b1 b2
   go_quiet (fail)
   clear g1 ce_2
   have HD := pw_below_drewN (Below.refl w2.heap.size w2) nq
   go_wp2_with fail
   go_ret
   exact ranew_no HNO.out (HR.out.below' HD) (HT.out.step HD)
  have d2 : decide (x.cells > (N : Int) - base) = false := decide_eq_false b2
  have HX := Aside0.mk (show 0 ≤ base ∧ base + x.cells ≤ (N : Int) ∧ 0 ≤ x.cells ∧ N ≤ 1000 by omega)
  clear b0 b1 b2
  go_quiet (fail)
  clear g1 ce_2 d0 d1 d2 hw1 hw2
  have HD := pw_below_drewN (Below.refl w2.heap.size w2) nq
  replace HR := Aside0.mk (HR.out.below' HD)
  replace HT := Aside0.mk (HT.out.step HD)
  replace BE := Aside0.mk (blk_drewN BE.out nq)
  clear HD
  generalize w2.drewN nq = w3 at HR HT BE ⊢
  obtain ⟨cc, hcc⟩ : ∃ cc, x.cells.toNat = cc := ⟨_, rfl⟩
  have hce : x.cells = (cc : Int) := by omega
  obtain ⟨mc, hmc⟩ : ∃ mc, clearM m base.toNat cc = mc := ⟨_, rfl⟩
  rw [hcc, hmc] at HAN
  have HMC := Aside0.mk hmc
  clear hmc hcc
  go_wp2_with fail
  go_loopg [8] cc (fun gg s8 wr => ∃ (i : Nat) (m1 : List (Int × Bool)), i ≤ cc ∧ cc - i ≤ gg ∧ s8 = .int .i64 i ∧ Aside0 (RAtR w0 wr g ma (some ead) c l N m1 tr cn) ∧ Aside0 (Turned (fun b => b = ma.block) w wr) ∧ Aside0 (wr.heap[ge]? = some (.cells #[.slice eA0 (x.params).length ec0, .slice eA1 (x.results).length ec1, .int .i64 x.cells, .slice eA3 (x.flags).length ec3, .slice eA4 (x.parts).length ec4, .slice eA5 (x.body).length ec5] 35 (0, 0))) ∧ Aside0 (clearM m1 (base.toNat + i) (cc - i) = mc))
  case atStart => exact ⟨0, m, Nat.zero_le _, by omega, rfl, HR, HT, BE, HMC⟩
  case round =>
   clear HR HT BE HMC
   obtain ⟨i, m1, hi, hg, rfl, HR, HT, BE, HMC⟩ := hrel
   have ce_2 := (blk_cell BE.out 2).trans rfl
   by_cases hlt : i < cc
   ·have hltz : (i : Int) < x.cells := by omega
    have hx := HX.out
    obtain ⟨v, hv⟩ : ∃ v : Nat, base.toNat + i = v := ⟨_, rfl⟩
    have hv1 : v < N := by omega
    have hvz : (v : Int) < (N : Int) := by omega
    have hbv : base + (i : Int) = (v : Int) := by omega
    have hw1 : wrap64 (base + (i : Int)) = (v : Int) := by unfold wrap64; omega
    have HM1 := Aside0.mk (show clearM (m1.set v (0, false)) (base.toNat + (i + 1)) (cc - (i + 1)) = mc by have h := HMC.out; rw [show cc - i = (cc - (i + 1)) + 1 by omega, clearM, hv] at h; rw [← h, ← hv]; rfl)
    clear HMC hx hv hbv
    have g1 := (blk_cell HR.out.blk 1).trans rfl
    have hvl : v < m1.length := by rw [HR.out.len]; omega
    have k0 := HR.out.mem.cell0 v hvl
    have k1 := HR.out.mem.cell1 v hvl
    have k2 := HR.out.mem.frozen0 (v * 2)
    have k3 := HR.out.mem.frozen1 (v * 2) 1
    have k4 := HR.out.mem.cell1s v hvl (.bool false)
    have k5 := HR.out.mem.frozen1s v (.bool false)
    clear hvl
    go_wp2_with fail
    clear k0 k1 k2 k3 k4 k5 g1 ce_2
    go_roundg (cc - (i + 1))
    case measure => omega
    case rel => exact ⟨i + 1, m1.set v (0, false), by omega, by omega, by go_num, ⟨HR.out.keep v (0, false)⟩, ⟨HR.out.mem.turned2 HT.out rfl (v * 2) (.bool false) (.int .i64 0)⟩, ⟨HR.out.mem.far2 BE.out NEM.out (v * 2) (.bool false) (.int .i64 0)⟩, HM1⟩
   ·obtain rfl : i = cc := by omega
    have hltz : ¬ (i : Int) < x.cells := by omega
    have hm1 := HMC.out
    rw [Nat.sub_self, clearM] at hm1
    rw [← hm1] at HAN
    clear hm1 HMC hg hi hlt
    go_wp2_with fail
    clear ce_2
    have hfm : x.flags.length ≤ 9223372036854775807 := (eG3.out).2.1
    obtain ⟨mf, hmf⟩ : ∃ mf, flagsM base x.flags m1 = mf := ⟨_, rfl⟩
    rw [hmf] at HAN
    have HMF := Aside0.mk hmf
    clear hmf
    go_loopg [9] x.flags.length (fun gg s9 wr => ∃ (jj : Nat) (m2 : List (Int × Bool)), jj ≤ x.flags.length ∧ x.flags.length - jj ≤ gg ∧ s9 = .int .i64 jj ∧ Aside0 (RAtR w0 wr g ma (some ead) c l N m2 tr cn) ∧ Aside0 (Turned (fun b => b = ma.block) w wr) ∧ Aside0 (wr.heap[ge]? = some (.cells #[.slice eA0 (x.params).length ec0, .slice eA1 (x.results).length ec1, .int .i64 x.cells, .slice eA3 (x.flags).length ec3, .slice eA4 (x.parts).length ec4, .slice eA5 (x.body).length ec5] 35 (0, 0))) ∧ Aside0 (flagsM base (x.flags.drop jj) m2 = mf))
    case atStart => exact ⟨0, m1, Nat.zero_le _, by omega, rfl, HR, HT, BE, HMF⟩
    case round =>
     clear HR HT BE HMF
     obtain ⟨jj, m2, hjj, hgj, rfl, HR, HT, BE, HFL⟩ := hrel
     have ce_3 := (blk_cell BE.out 3).trans rfl
     by_cases hltj : jj < x.flags.length
     ·have hltzj : (jj : Int) < (x.flags.length : Int) := by omega
      have HF1 := Aside0.mk (show flagsM base (x.flags.drop (jj + 1)) (m2.set (base + x.flags.getD jj (0 : Int)).toNat (1, true)) = mf by rw [← HFL.out, drop_getD x.flags jj hltj (0 : Int), flagsM])
      have HFN := Aside0.mk (HFO.out.flags _ (getD_mem hltj (0 : Int)))
      clear HFL
      obtain ⟨nad, ncs, rfl, _, nK, ncc⟩ := Kd.C_get eG3.out (0 : Int) (jj : Int) (by omega) (by omega)
      obtain rfl := nK
      have nx0 := (HR.out.below.cell (World.block_lt_of_cell? w0 _ (ncc 0 _ rfl))).trans (ncc 0 _ rfl)
      simp only [show (Kd.int .i64).sz = 1 from rfl, Nat.mul_one, Nat.add_zero, Int.toNat_natCast] at nx0
      clear ncc
      try simp only [Int.toNat_natCast] at nx0
      generalize Yn0 : x.flags.getD jj (0 : Int) = n at nx0
      have Yn := Aside0.mk Yn0; clear Yn0
      rw [Yn.out] at HF1 HFN
      have hx := HX.out
      have hn := HFN.out
      obtain ⟨v, hv⟩ : ∃ v : Nat, (base + n).toNat = v := ⟨_, rfl⟩
      have hv1 : v < N := by omega
      have hvz : (v : Int) < (N : Int) := by omega
      have hw1 : wrap64 (base + n) = (v : Int) := by unfold wrap64; omega
      rw [hv] at HF1
      clear hv hx hn
      have HRd := Aside0.mk (HR.out.below' (below_drew1 (Below.refl _ _)))
      have g1 := (blk_cell HR.out.blk 1).trans rfl
      have hvl : v < m2.length := by rw [HR.out.len]; omega
      have k0 := HR.out.mem.cell0 v hvl
      have k1 := HR.out.mem.cell1 v hvl
      have k2 := HR.out.mem.frozen0 (v * 2)
      have k3 := HR.out.mem.frozen1 (v * 2) 1
      have k4 := HR.out.mem.cell1s v hvl (.bool true)
      have k5 := HR.out.mem.frozen1s v (.bool true)
      clear hvl
      go_wp2_with fail
      go_region
      all_goals
       clear k0 k1 k2 k3 k4 k5 g1 ce_3 nx0
       go_wp2_with fail
       go_roundg (x.flags.length - (jj + 1))
       case measure => omega
       case rel => exact ⟨jj + 1, m2.set v (1, true), by omega, by omega, by go_num, ⟨HRd.out.keep v (1, true)⟩, ⟨HRd.out.mem.turned2 HT.out.drew rfl (v * 2) (.bool true) (.int .i64 1)⟩, ⟨HRd.out.mem.far2 (blk_drew BE.out) NEM.out (v * 2) (.bool true) (.int .i64 1)⟩, HF1⟩
     ·have hltzj : ¬ (jj : Int) < (x.flags.length : Int) := by omega
      obtain rfl : jj = x.flags.length := by omega
      have hf := HFL.out
      rw [List.drop_length, flagsM] at hf
      rw [← hf] at HAN
      clear hf HFL hgj hjj hltj hfm
      go_wp2_with fail
      clear ce_3
      have hpm : x.parts.length ≤ 9223372036854775807 := (eG4.out).2.1
      obtain ⟨R, hRr⟩ : ∃ R, anewF l (d + 1) k base m = R := ⟨_, rfl⟩
      rw [hRr] at HAN
      have HRE := Aside0.mk hRr
      clear hRr
      replace HAN := Aside0.mk HAN.out.symm
      go_loopg [10] x.parts.length (fun gg s10 wr => ∃ (jj : Nat) (m3 : List (Int × Bool)), jj ≤ x.parts.length ∧ x.parts.length - jj ≤ gg ∧ s10 = .int .i64 jj ∧ Aside0 (RAtR w0 wr g ma (some ead) c l N m3 tr cn) ∧ Aside0 (Turned (fun b => b = ma.block) w wr) ∧ Aside0 (wr.heap[ge]? = some (.cells #[.slice eA0 (x.params).length ec0, .slice eA1 (x.results).length ec1, .int .i64 x.cells, .slice eA3 (x.flags).length ec3, .slice eA4 (x.parts).length ec4, .slice eA5 (x.body).length ec5] 35 (0, 0))) ∧ Aside0 (partsM (anewF l d) base (x.parts.drop jj) m3 = R))
      case atStart => exact ⟨0, m2, Nat.zero_le _, by omega, rfl, HR, HT, BE, HAN⟩
      case round =>
       clear HR HT BE HAN
       obtain ⟨pp, m3, hpp, hgp, rfl, HR, HT, BE, HPA⟩ := hrel
       have ce_4 := (blk_cell BE.out 4).trans rfl
       by_cases hltp : pp < x.parts.length
       ·have hltzp : (pp : Int) < (x.parts.length : Int) := by omega
        have HP1 := Aside0.mk (show partsM (anewF l d) base (x.parts.drop (pp + 1)) (anewF l d (x.parts.getD pp z103).f1 (base + (x.parts.getD pp z103).f0) m3) = R by rw [← HPA.out, drop_getD x.parts pp hltp z103, partsM])
        have HPN := Aside0.mk (HFO.out.parts _ (getD_mem hltp z103))
        clear HPA
        obtain ⟨pad, pcs, rfl, _, pK, pcc⟩ := Kd.C_get eG4.out z103 (pp : Int) (by omega) (by omega)
        have pK' := pK
        obtain rfl := k103_open pK'
        have px0 := (HR.out.below.cell (World.block_lt_of_cell? w0 _ (pcc 0 _ rfl))).trans (pcc 0 _ rfl)
        have px1 := (HR.out.below.cell (World.block_lt_of_cell? w0 _ (pcc 1 _ rfl))).trans (pcc 1 _ rfl)
        rw [show (kPt).sz = 2 from rfl, Nat.add_zero, Int.toNat_natCast] at px0
        rw [show (kPt).sz = 2 from rfl, Int.toNat_natCast, add_field _ _ 1 (by omega)] at px1
        clear pcc
        try simp only [Int.toNat_natCast] at px0 px1 pK
        generalize Yq0 : x.parts.getD pp z103 = q at px0 px1 pK
        have Yq := Aside0.mk Yq0; clear Yq0
        rw [Yq.out] at HP1 HPN
        clear pK
        have hcall := fun (W : World) (hR7 : RAtR w0 W g ma (some ead) c l N m3 tr cn) => HI.out q.f1 (base + q.f0) m3 W hR7 HPN.out.1 (by have := HPN.out; have := HK.out; omega) (by have := HPN.out; have := HK.out; omega)
        have hw1 : wrap64 (base + q.f0) = base + q.f0 := by have := HPN.out; have := HX.out; unfold wrap64; omega
        have HRd := Aside0.mk (HR.out.below' (below_drew1 (Below.refl _ _)))
        go_wp2_with fail
        go_still_tail 15, (by kernel_rfl)
        change wpList _ _ _ _ _ (World.drew wr)
        have HTd := Aside0.mk HT.out.drew
        have BEd := Aside0.mk (blk_drew BE.out)
        clear ce_4 px0 px1 HR HT BE
        generalize World.drew wr = w5 at HRd HTd BEd ⊢
        go_wp2_with fail
        rw [hw1]
        refine (hcall _ HRd.out).mono ?_
        rintro e w7 ⟨hp1, _, ht7⟩
        obtain ⟨rfl, hR7⟩ := hp1 (by have := HPN.out; have := HX.out; omega)
        have HR := Aside0.mk hR7
        have HT := Aside0.mk (HTd.out.trans ht7)
        have BE := Aside0.mk (ht7.blk BEd.out NEM.out)
        clear hp1 hR7 ht7 hcall hw1
        go_wp2_with fail
        go_roundg (x.parts.length - (pp + 1))
        case measure => omega
        case rel => exact ⟨pp + 1, _, by omega, by omega, by go_num, HR, HT, BE, HP1⟩
       ·have hltzp : ¬ (pp : Int) < (x.parts.length : Int) := by omega
        obtain rfl : pp = x.parts.length := by omega
        have hf := HPA.out
        rw [List.drop_length, partsM] at hf
        rw [← hf] at HRE
        clear hf HPA hgp hpp hltp hpm
        go_wp2_with fail
        go_ret
        exact ranew_yes (by rw [Yx.out]; have := HX.out; omega) HRE.out HR.out HT.out
end Go.Proofs.YticndoihkfbpoaaGreatDoor
