/- Package runner: what an expression is worth, in plain Lean; a frame in the heap; must, at, further. -/
import Derived.Test.YticndoihkfbpoaaGreatDoorXb
namespace Go.Proofs.YticndoihkfbpoaaGreatDoor
open Go Go.RowKit Go.Lib Go.Proofs.YticndoihkfbpoaaGreatDoorW.PrintWords Go.Proofs.YticndoihkfbpoaaGreatDoor.PScope
set_option maxRecDepth 100000
set_option linter.unusedSimpArgs false
set_option linter.unusedVariables false
attribute [local irreducible] wpStill
abbrev Cl := Int × Bool
abbrev Vars := ByteArray → Option Cl
def nilC : Cl := (0, false)
def vget (f : Vars) (s : ByteArray) : Cl := (f s).getD nilC
def atV (m : List Cl) (base n : Int) : Option Cl := if 0 ≤ n ∧ n < (m.length : Int) - base then some (m.getD (base + n).toNat nilC) else none
def worth (m : List Cl) (base : Int) (f : Vars) (op : Int) (nm : ByteArray) (n : Int) : List (Option Cl) → Option Cl
 | [] => if op = 1 then some (n, true) else if op = 4 then some (vget f nm) else if op = 16 then atV m base n else some nilC
 | [a] => if op = 5 then a.map (fun c => if c.2 then ((unV nm c.1).1, (unV nm c.1).2 == 0) else nilC) else some nilC
 | [a, b] => if op = 6 then a.bind (fun x => b.map (fun y => if x.2 && y.2 then ((binV nm x.1 y.1).1, (binV nm x.1 y.1).2 == 0) else nilC)) else some nilC
 | [c, a, b] => if op = 7 then c.bind (fun x => if x.2 then (if x.1 = 0 then b else a) else some nilC) else some nilC
 | _ => some nilC
mutual
def valE (m : List Cl) (base : Int) (f : Vars) : S38 → Option Cl
 | ⟨op, nm, n, _, kids⟩ => worth m base f op nm n (valL m base f kids)
def valL (m : List Cl) (base : Int) (f : Vars) : List S38 → List (Option Cl)
 | [] => []
 | e :: r => valE m base f e :: valL m base f r
end
theorem valL_map (m : List Cl) (base : Int) (f : Vars) : ∀ l, valL m base f l = l.map (valE m base f)
 | [] => by rw [valL]; rfl
 | e :: r => by rw [valL, valL_map m base f r]; rfl
theorem valE_eq (m : List Cl) (base : Int) (f : Vars) (x : S38) : valE m base f x = worth m base f x.f0 x.f1 x.f2 (x.f4.map (valE m base f)) := by
 cases x
 rw [valE, valL_map]
def encC (c : Cl) : Value := .agg #[.int .i64 c.1, .bool c.2]
abbrev trapE : Ending := .panicked [{ v := .iface 85 (.agg #[]), recovered := false }]
structure FAt (w0 w : World) (g : Nat) (ma : Addr) (A : Option Addr) (c : Nat) (l : List FF) (N : Nat) (m : List Cl) (tr : Bool) (cn : Int) (gf : Nat) (base : Int) (mp : Nat) (f : Vars) : Prop where
 run : RAt w0 w g ma A c l N m tr cn
 frm : w.heap[gf]? = some (.cells #[.pointer (some ⟨g, 0, none⟩), .int .i64 base, .map (some mp)] 126 (0, 0))
 vars : StrMap w mp (menc encC f)
 b0 : 0 ≤ base
 b1 : base ≤ (N : Int)
 hf : w0.heap.size ≤ gf
 hm : w0.heap.size ≤ mp
theorem RAt.below' {w0 w w' : World} {g : Nat} {ma : Addr} {A : Option Addr} {c : Nat} {l : List FF} {N : Nat} {m : List Cl} {tr : Bool} {cn : Int} (h : RAt w0 w g ma A c l N m tr cn) (hb : Below w.heap.size w w') : RAt w0 w' g ma A c l N m tr cn :=
 ⟨below_blk h.blk hb, h.mem.below hb, h.len, h.few, h.hg, h.hb, h.ne, below_step h.below hb⟩
section
variable {w0 w w' : World} {g : Nat} {ma : Addr} {A : Option Addr} {c : Nat} {l : List FF} {N : Nat} {m : List Cl} {tr : Bool} {cn : Int} {gf : Nat} {base : Int} {mp : Nat} {f : Vars}
theorem FAt.below' (h : FAt w0 w g ma A c l N m tr cn gf base mp f) (hb : Below w.heap.size w w') : FAt w0 w' g ma A c l N m tr cn gf base mp f :=
 ⟨h.run.below' hb, below_blk h.frm hb, h.vars.below hb, h.b0, h.b1, h.hf, h.hm⟩
theorem must_t (w : World) : Calls Tryz.prog 72 #[.bool true] w fun e w' => e = .returned (.tuple #[]) ∧ w' = w := by
 go_enter Tryz.func72, Tryz.ntmps72
 go_wp2_with fail
 go_end0
 exact ⟨rfl, rfl⟩
theorem must_f (w : World) : Calls Tryz.prog 72 #[.bool false] w fun e w' => e = trapE ∧ w' = w := by
 go_enter Tryz.func72, Tryz.ntmps72
 go_wp2_with fail
 exact ⟨rfl, rfl, rfl⟩
def furV (N : Nat) (base n : Int) : Int := if n < 0 ∨ n > (N : Int) - base then (N : Int) else base + n
theorem furV_in {N : Nat} {base n : Int} (h0 : 0 ≤ base) (h1 : base ≤ (N : Int)) : 0 ≤ furV N base n ∧ furV N base n ≤ (N : Int) := by
 unfold furV
 split <;> omega
set_option maxHeartbeats 2000000 in
theorem further_calls (h : FAt w0 w g ma A c l N m tr cn gf base mp f) (n : Int) :
  Calls Tryz.prog 142 #[.pointer (some ⟨gf, 0, none⟩), .int .i64 n] w fun e w' => e = .returned (.int .i64 (furV N base n)) ∧ Below w.heap.size w w' := by
 have x0 := (blk_cell h.frm 0).trans rfl
 have x1 := (blk_cell h.frm 1).trans rfl
 have y1 := (blk_cell h.run.blk 1).trans rfl
 have hfew := h.run.few
 have hb0 := h.b0
 have hb1 := h.b1
 have hw1 : wrap64 ((N : Int) - base) = (N : Int) - base := by unfold wrap64; omega
 clear h
 by_cases h0 : n < 0
 ·have d0 : decide (n < 0) = true := decide_eq_true h0
  rw [show furV N base n = (N : Int) by unfold furV; rw [if_pos (.inl h0)]]
  clear h0
  go_enter Tryz.func142, Tryz.ntmps142
  go_wp2_with fail
  go_quiet (fail)
  go_wp2_with fail
  go_ret
  exact ⟨rfl, pw_below_drewN (Below.refl _ _) _⟩
 ·have d0 : decide (n < 0) = false := decide_eq_false h0
  by_cases h1 : n > (N : Int) - base
  ·have d1 : decide (n > (N : Int) - base) = true := decide_eq_true h1
   rw [show furV N base n = (N : Int) by unfold furV; rw [if_pos (.inr h1)]]
   clear h0 h1
   go_enter Tryz.func142, Tryz.ntmps142
   go_wp2_with fail
   go_quiet (fail)
   go_wp2_with fail
   go_ret
   exact ⟨rfl, pw_below_drewN (Below.refl _ _) _⟩
  ·have d1 : decide (n > (N : Int) - base) = false := decide_eq_false h1
   have hw2 : wrap64 (base + n) = base + n := by unfold wrap64; omega
   rw [show furV N base n = base + n by unfold furV; rw [if_neg (by omega)]]
   clear h0 h1
   go_enter Tryz.func142, Tryz.ntmps142
   go_wp2_with fail
   go_quiet (fail)
   go_wp2_with fail
   go_ret
   exact ⟨by show Ending.returned (.int .i64 (wrap64 (base + n))) = _; rw [hw2], pw_below_drewN (Below.refl _ _) _⟩
def AtPost (ma : Addr) (m : List Cl) (base n : Int) (w : World) (e : Ending) (w' : World) : Prop :=
 (if 0 ≤ n ∧ n < (m.length : Int) - base then e = .returned (.pointer (some (ma.add ((base + n).toNat * 2)))) else e = trapE) ∧ Below w.heap.size w w'
set_option maxHeartbeats 2000000 in
theorem at_calls (h : FAt w0 w g ma A c l N m tr cn gf base mp f) (n : Int) :
  Calls Tryz.prog 108 #[.pointer (some ⟨gf, 0, none⟩), .int .i64 n] w (AtPost ma m base n w) := by
 have x0 := (blk_cell h.frm 0).trans rfl
 have x1 := (blk_cell h.frm 1).trans rfl
 have y1 := (blk_cell h.run.blk 1).trans rfl
 have hfew := h.run.few
 have hb0 := h.b0
 have hb1 := h.b1
 have hln := h.run.len
 have hw1 : wrap64 ((N : Int) - base) = (N : Int) - base := by unfold wrap64; omega
 have hw2 : IntKind.i64.wrap ((N : Int) - base) = (N : Int) - base := by rw [wrapEq]; exact hw1
 unfold AtPost
 rw [hln]
 clear h hln
 by_cases h0 : n ≥ 0
 ·have d0 : decide (n ≥ 0) = true := decide_eq_true h0
  by_cases h1 : n < (N : Int) - base
  ·have d1 : decide (n < (N : Int) - base) = true := decide_eq_true h1
   simp only [if_pos (show 0 ≤ n ∧ n < (N : Int) - base from ⟨h0, h1⟩)]
   obtain ⟨v, hv⟩ : ∃ v, base + n = v := ⟨_, rfl⟩
   have hv0 : 0 ≤ v := by omega
   have hv1 : v < (N : Int) := by omega
   have hw3 : wrap64 (base + n) = v := by unfold wrap64; omega
   have hw4 : IntKind.i64.wrap (base + n) = v := by rw [wrapEq]; exact hw3
   rw [hv]
   have hmt := must_t
   clear h0 h1 hv
   go_enter Tryz.func108, Tryz.ntmps108
   go_wp2_with fail
   go_still_tail 19, (by kernel_rfl)
   change wpList _ _ _ _ _ (World.drew w)
   have e0 : (World.drew w).cell? ⟨gf, 0, none⟩ = _ := x0
   have e1 : (World.drew w).cell? ⟨gf, 1, none⟩ = _ := x1
   have e2 : (World.drew w).cell? ⟨g, 1, none⟩ = _ := y1
   have HB := Aside0.mk (below_drew1 (Below.refl w.heap.size w))
   clear x0 x1 y1
   generalize World.drew w = w1 at e0 e1 e2 HB ⊢
   go_wp2_with fail
   refine (hmt _).mono ?_
   rintro e w2 ⟨rfl, rfl⟩
   clear hmt
   go_wp2_with fail
   go_quiet (fail)
   go_wp2_with fail
   go_ret
   exact ⟨rfl, pw_below_drewN HB.out _⟩
  ·have d1 : decide (n < (N : Int) - base) = false := decide_eq_false h1
   simp only [if_neg (show ¬ (0 ≤ n ∧ n < (N : Int) - base) from fun h => h1 h.2)]
   have hmt := must_f
   clear h0 h1
   go_enter Tryz.func108, Tryz.ntmps108
   go_wp2_with fail
   go_still_tail 19, (by kernel_rfl)
   change wpList _ _ _ _ _ (World.drew w)
   have HB := Aside0.mk (below_drew1 (Below.refl w.heap.size w))
   clear x0 x1 y1
   generalize World.drew w = w1 at HB ⊢
   go_wp2_with fail
   refine (hmt _).mono ?_
   rintro e w2 ⟨rfl, rfl⟩
   clear hmt
   go_wp2_with fail
   exact ⟨rfl, rfl, HB.out⟩
 ·have d0 : decide (n ≥ 0) = false := decide_eq_false h0
  simp only [if_neg (show ¬ (0 ≤ n ∧ n < (N : Int) - base) from fun h => h0 h.1)]
  have hmt := must_f
  clear h0
  go_enter Tryz.func108, Tryz.ntmps108
  go_wp2_with fail
  go_still_tail 19, (by kernel_rfl)
  change wpList _ _ _ _ _ (World.drew w)
  have HB := Aside0.mk (below_drew1 (Below.refl w.heap.size w))
  clear x0 x1 y1
  generalize World.drew w = w1 at HB ⊢
  go_wp2_with fail
  refine (hmt _).mono ?_
  rintro e w2 ⟨rfl, rfl⟩
  clear hmt
  go_wp2_with fail
  exact ⟨rfl, rfl, HB.out⟩
end
end Go.Proofs.YticndoihkfbpoaaGreatDoor
