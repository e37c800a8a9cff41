/- Worlds in which some blocks have turned. -/
import Derived.Deep.RegionWith
import Derived.Test.YticndoihkfbpoaaGreatDoorBase
namespace Go.Proofs.YticndoihkfbpoaaGreatDoor
open Go Go.RowKit Go.Lib Go.Proofs.YticndoihkfbpoaaGreatDoorW.PrintWords
set_option maxRecDepth 100000
set_option linter.unusedSimpArgs false
set_option linter.unusedVariables false
structure Turned (S : Nat → Prop) (W w' : World) : Prop where
 os : w'.os = W.os
 tape : w'.tape = W.tape
 output : w'.output = W.output
 size : W.heap.size ≤ w'.heap.size
 block : ∀ k, k < W.heap.size → ¬ S k → w'.heap[k]? = W.heap[k]?
theorem Turned.refl (S : Nat → Prop) (W : World) : Turned S W W := ⟨rfl, rfl, rfl, Nat.le_refl _, fun _ _ _ => rfl⟩
theorem Turned.trans {S : Nat → Prop} {a b c : World} (h : Turned S a b) (k : Turned S b c) : Turned S a c :=
 ⟨k.os.trans h.os, k.tape.trans h.tape, k.output.trans h.output, Nat.le_trans h.size k.size, fun i hi hs => (k.block i (Nat.lt_of_lt_of_le hi h.size) hs).trans (h.block i hi hs)⟩
theorem Turned.of_below {S : Nat → Prop} {W w1 : World} (h : Below W.heap.size W w1) : Turned S W w1 := ⟨h.os, h.tape, h.output, h.size, fun k hk _ => h.block k hk⟩
theorem Turned.step {S : Nat → Prop} {a b c : World} (h : Turned S a b) (k : Below b.heap.size b c) : Turned S a c := h.trans (Turned.of_below k)
theorem Turned.set {S : Nat → Prop} {a b : World} (h : Turned S a b) {p : Addr} (hp : S p.block) (u : Value) : Turned S a (b.setCell p u) :=
 ⟨h.os, h.tape, h.output, by have := h.size; simpa using this, fun k hk hs => (Below.heap_setCell b p u k (fun e => hs (e ▸ hp))).trans (h.block k hk hs)⟩
theorem Turned.drew {S : Nat → Prop} {a b : World} (h : Turned S a b) : Turned S a b.drew := ⟨h.os, h.tape, h.output, h.size, h.block⟩
theorem Turned.below {S : Nat → Prop} {B : Nat} {w0 W w1 : World} (h : Turned S W w1) (hb : Below B w0 W) (hB : B ≤ W.heap.size) (hs : ∀ k, S k → B ≤ k) : Below B w0 w1 :=
 hb.trans ⟨h.os, h.tape, h.output, h.size, fun k hk => h.block k (by omega) (fun s => by have := hs k s; omega)⟩
theorem turned_as {S : Nat → Prop} {w W w2 : World} {o' : Obj} (h : Turned S w W) (hg : (W.alloc o').grownBy w2 (some W.heap.size)) : Turned S w w2 := by
 have h1 := h.size
 have h2 : Turned S w (W.alloc o') := h.step (below_alloc (Below.refl _ _) _)
 refine ⟨hg.os.trans h2.os, hg.tape.trans h2.tape, hg.output.trans h2.output, Nat.le_trans h2.size hg.size, fun k hk hs => (hg.block k (by simp; omega) (by intro e; injection e with e; omega)).trans (h2.block k hk hs)⟩
theorem blk_as {W w2 : World} {g : Nat} {o o' : Obj} (h : W.heap[g]? = some o) (hg : (W.alloc o').grownBy w2 (some W.heap.size)) : w2.heap[g]? = some o := by
 have hl := blk_lt h
 exact (hg.block g (by simp; omega) (by intro e; injection e with e; omega)).trans (blk_alloc h _)
theorem below_as {w W w2 : World} {o' : Obj} (h : Below w.heap.size w W) (hg : (W.alloc o').grownBy w2 (some W.heap.size)) : Below w.heap.size w w2 := by
 have := h.size
 exact (below_alloc h _).grown hg (by simp; omega) (fun k hk => by cases hk; exact this)
end Go.Proofs.YticndoihkfbpoaaGreatDoor
