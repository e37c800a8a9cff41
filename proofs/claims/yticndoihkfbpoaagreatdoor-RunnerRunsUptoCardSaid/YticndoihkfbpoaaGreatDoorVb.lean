/- slices.IndexFunc and slices.ContainsFunc at the program's element types, whatever the function value does: a relation between the rounds. -/
import Derived.Test.YticndoihkfbpoaaGreatDoorVa
namespace Go.Proofs.YticndoihkfbpoaaGreatDoor
open Go Go.RowKit Go.Lib Go.Proofs.YticndoihkfbpoaaGreatDoorW.PrintWords Go.Proofs.YticndoihkfbpoaaGreatDoor.PScope
set_option maxRecDepth 100000
set_option linter.unusedSimpArgs false
set_option linter.unusedVariables false
def zFS : FS := .mk 0 ⟨#[]⟩ 0 0 [] ⟨0, ⟨#[]⟩, 0, [], []⟩ [] []
theorem kFS_open12K {w : World} {x : FS} {cs : List Value} (h : kFS.K w x cs) :
  ∃ v4 v8 v9 v6 v7, cs = [.int .i64 x.op, .string x.name, .int .i64 x.pos, .int .i64 x.fn, v4, .int .i64 x.e.f0, .string x.e.f1, .int .i64 x.e.f2, v8, v9, v6, v7] ∧ True := by
 obtain ⟨A4, c4, ce, A6, c6, A7, c7, rfl, _, _, g5, _, _, _, _⟩ := kFS_open h
 obtain ⟨A8, c8, A9, c9, rfl, _⟩ := k38_open g5
 exact ⟨_, _, _, _, _, rfl, trivial⟩
def IxPost (n : Nat) (p : Nat → Bool) (Inv Fin : Nat → World → Prop) (e : Ending) (w' : World) : Prop :=
 (e = .returned (.int .i64 (-1)) ∧ (∀ i, i < n → p i = false) ∧ Inv n w') ∨ ∃ i : Nat, i < n ∧ e = .returned (.int .i64 (i : Int)) ∧ (∀ j, j < i → p j = false) ∧ p i = true ∧ Fin i w'
def CtPost (n : Nat) (p : Nat → Bool) (Inv Fin : Nat → World → Prop) (e : Ending) (w' : World) : Prop :=
 (e = .returned (.bool false) ∧ (∀ i, i < n → p i = false) ∧ Inv n w') ∨ ∃ i : Nat, i < n ∧ e = .returned (.bool true) ∧ (∀ j, j < i → p j = false) ∧ p i = true ∧ Fin i w'
theorem any_getD_false {α : Type} (xs : List α) (q : α → Bool) (z : α) (h : ∀ i, i < xs.length → q (xs.getD i z) = false) : xs.any q = false := by
 rw [List.any_eq_false]
 intro x hx
 obtain ⟨i, hi⟩ := List.getElem?_of_mem hx
 have hl := (List.getElem?_eq_some_iff.1 hi).1
 have := h i hl
 rw [List.getD_eq_getElem?_getD, hi] at this
 simpa using this
theorem any_getD_true {α : Type} (xs : List α) (q : α → Bool) (z : α) (i : Nat) (hi : i < xs.length) (h : q (xs.getD i z) = true) : xs.any q = true := by
 rw [List.any_eq_true]
 refine ⟨xs.getD i z, ?_, h⟩
 rw [List.getD_eq_getElem?_getD, List.getElem?_eq_getElem hi]
 exact List.getElem_mem hi
theorem CtPost.any {α : Type} {xs : List α} {q : α → Bool} {z : α} {I : World → Prop} {e : Ending} {w' : World} (h : CtPost xs.length (fun i => q (xs.getD i z)) (fun _ W => I W) (fun _ W => I W) e w') :
  e = .returned (.bool (xs.any q)) ∧ I w' := by
 rcases h with ⟨rfl, h1, h2⟩ | ⟨i, hi, rfl, _, h1, h2⟩
 ·rw [any_getD_false xs q z h1]; exact ⟨rfl, h2⟩
 ·rw [any_getD_true xs q z i hi h1]; exact ⟨rfl, h2⟩
set_option maxHeartbeats 2000000 in
theorem ix_FStmt (g : Nat) (lb : Array Value) (eg : ∀ args w, (callFunc g args).run Tryz.prog w = .ok (.enter g args) w) (w0 w : World) (A : Option Addr) (c : Nat) (xs : List FS) (hC : Kd.C kFS w0 A xs.length xs) (p : Nat → Bool) (Inv Fin : Nat → World → Prop) (hB : ∀ i W, Inv i W → Below w0.heap.size w0 W)
  (hstep : ∀ i W cs, i < xs.length → Inv i W → kFS.K w0 (xs.getD i zFS) cs → Calls Tryz.prog g (#[(.agg cs.toArray)] ++ lb) W fun e W' => e = .returned (.bool (p i)) ∧ (p i = true → Fin i W') ∧ (p i = false → Inv (i + 1) W')) (h0 : Inv 0 w) :
  Calls Tryz.prog 139 #[.slice A xs.length c, .func (.func g) #[] lb] w (IxPost xs.length p Inv Fin) := by
 have hmax : xs.length ≤ 9223372036854775807 := hC.2.1
 have H0 := Aside0.mk h0
 have HC := Aside0.mk hC
 have HS := Aside0.mk hstep
 have HBB := Aside0.mk hB
 clear h0 hC hstep hB
 go_enter Tryz.func139, Tryz.ntmps139
 go_wp2
 go_loopg [5, 8] xs.length (fun gg _ s8 wr => ∃ kk : Nat, kk ≤ xs.length ∧ xs.length - kk ≤ gg ∧ s8 = .int .i64 kk ∧ Aside0 (Inv kk wr) ∧ Aside0 (∀ j, j < kk → p j = false))
 case atStart => exact ⟨0, Nat.zero_le _, by omega, rfl, H0, ⟨fun j hj => absurd hj (Nat.not_lt_zero _)⟩⟩
 case round =>
  obtain ⟨kk, hkk, hg, rfl, I, N⟩ := hrel
  have HB := Aside0.mk (HBB.out kk wr I.out)
  by_cases hlt : kk < xs.length
  ·have hltz : (kk : Int) < (xs.length : Int) := by omega
   have hC := HC.out
   have hstep := HS.out
   obtain ⟨ad, cs, rfl, _, hK, hcc⟩ := Kd.C_get hC zFS (kk : Int) (by omega) (by omega)
   have hK' := hK
   obtain ⟨v4, v8, v9, v6, v7, rfl, _⟩ := kFS_open12K hK'
   have hx0 := (HB.out.cell (World.block_lt_of_cell? w0 _ (hcc 0 _ rfl))).trans (hcc 0 _ rfl)
   have hx1 := (HB.out.cell (World.block_lt_of_cell? w0 _ (hcc 1 _ rfl))).trans (hcc 1 _ rfl)
   have hx2 := (HB.out.cell (World.block_lt_of_cell? w0 _ (hcc 2 _ rfl))).trans (hcc 2 _ rfl)
   have hx3 := (HB.out.cell (World.block_lt_of_cell? w0 _ (hcc 3 _ rfl))).trans (hcc 3 _ rfl)
   have hx4 := (HB.out.cell (World.block_lt_of_cell? w0 _ (hcc 4 _ rfl))).trans (hcc 4 _ rfl)
   have hx5 := (HB.out.cell (World.block_lt_of_cell? w0 _ (hcc 5 _ rfl))).trans (hcc 5 _ rfl)
   have hx6 := (HB.out.cell (World.block_lt_of_cell? w0 _ (hcc 6 _ rfl))).trans (hcc 6 _ rfl)
   have hx7 := (HB.out.cell (World.block_lt_of_cell? w0 _ (hcc 7 _ rfl))).trans (hcc 7 _ rfl)
   have hx8 := (HB.out.cell (World.block_lt_of_cell? w0 _ (hcc 8 _ rfl))).trans (hcc 8 _ rfl)
   have hx9 := (HB.out.cell (World.block_lt_of_cell? w0 _ (hcc 9 _ rfl))).trans (hcc 9 _ rfl)
   have hx10 := (HB.out.cell (World.block_lt_of_cell? w0 _ (hcc 10 _ rfl))).trans (hcc 10 _ rfl)
   have hx11 := (HB.out.cell (World.block_lt_of_cell? w0 _ (hcc 11 _ rfl))).trans (hcc 11 _ rfl)
   rw [show (kFS).sz = 12 from rfl, Nat.add_zero, Int.toNat_natCast] at hx0
   rw [show (kFS).sz = 12 from rfl, Int.toNat_natCast, add_field _ _ 1 (by omega)] at hx1
   rw [show (kFS).sz = 12 from rfl, Int.toNat_natCast, add_field _ _ 2 (by omega)] at hx2
   rw [show (kFS).sz = 12 from rfl, Int.toNat_natCast, add_field _ _ 3 (by omega)] at hx3
   rw [show (kFS).sz = 12 from rfl, Int.toNat_natCast, add_field _ _ 4 (by omega)] at hx4
   rw [show (kFS).sz = 12 from rfl, Int.toNat_natCast, add_field _ _ 5 (by omega)] at hx5
   rw [show (kFS).sz = 12 from rfl, Int.toNat_natCast, add_field _ _ 6 (by omega)] at hx6
   rw [show (kFS).sz = 12 from rfl, Int.toNat_natCast, add_field _ _ 7 (by omega)] at hx7
   rw [show (kFS).sz = 12 from rfl, Int.toNat_natCast, add_field _ _ 8 (by omega)] at hx8
   rw [show (kFS).sz = 12 from rfl, Int.toNat_natCast, add_field _ _ 9 (by omega)] at hx9
   rw [show (kFS).sz = 12 from rfl, Int.toNat_natCast, add_field _ _ 10 (by omega)] at hx10
   rw [show (kFS).sz = 12 from rfl, Int.toNat_natCast, add_field _ _ 11 (by omega)] at hx11
   have hcall := hstep kk wr _ (by omega) I.out hK
   clear hcc hstep hC
   try simp only [Int.toNat_natCast] at hcall
   try simp only [Int.toNat_natCast] at hx0 hx1 hx2 hx3 hx4 hx5 hx6 hx7 hx8 hx9 hx10 hx11
   generalize xs.getD kk zFS = y at hcall hx0 hx1 hx2 hx3 hx4 hx5 hx6 hx7 hx8 hx9 hx10 hx11 hK
   clear hK
   cases hq : p kk with
   | true =>
    rw [hq] at hcall
    have Hq := Aside0.mk hq
    clear hq
    go_wp2_with (go_at_fn g; refine hcall.mono ?_; rintro e w' ⟨rfl, hf, _⟩; have HF := Aside0.mk (hf rfl); clear hf)
    go_ret
    exact .inr ⟨kk, hlt, rfl, N.out, Hq.out, HF.out⟩
   | false =>
    rw [hq] at hcall
    have Hq := Aside0.mk hq
    clear hq
    go_wp2_with (go_at_fn g; refine hcall.mono ?_; rintro e w' ⟨rfl, _, hf⟩; have HF := Aside0.mk (hf rfl); clear hf)
    go_roundg (xs.length - (kk + 1))
    case measure => omega
    case rel =>
     refine ⟨kk + 1, by omega, by omega, by go_num, HF, ⟨fun j hj => ?_⟩⟩
     by_cases e : j = kk
     ·subst e; exact Hq.out
     ·exact N.out j (by omega)
  ·have hltz : ¬ (kk : Int) < (xs.length : Int) := by omega
   obtain rfl : kk = xs.length := by omega
   go_wp2
   go_ret
   exact .inl ⟨rfl, N.out, I.out⟩
theorem ct_FStmt (g : Nat) (lb : Array Value) (eg : ∀ args w, (callFunc g args).run Tryz.prog w = .ok (.enter g args) w) (w0 w : World) (A : Option Addr) (c : Nat) (xs : List FS) (hC : Kd.C kFS w0 A xs.length xs) (p : Nat → Bool) (Inv Fin : Nat → World → Prop) (hB : ∀ i W, Inv i W → Below w0.heap.size w0 W)
  (hstep : ∀ i W cs, i < xs.length → Inv i W → kFS.K w0 (xs.getD i zFS) cs → Calls Tryz.prog g (#[(.agg cs.toArray)] ++ lb) W fun e W' => e = .returned (.bool (p i)) ∧ (p i = true → Fin i W') ∧ (p i = false → Inv (i + 1) W')) (h0 : Inv 0 w) :
  Calls Tryz.prog 102 #[.slice A xs.length c, .func (.func g) #[] lb] w (CtPost xs.length p Inv Fin) := by
 have hix := ix_FStmt g lb eg w0 w A c xs hC p Inv Fin hB hstep h0
 have H0 := Aside0.mk hix
 clear h0 hC hstep hB eg hix
 go_enter Tryz.func102, Tryz.ntmps102
 go_wp2_with fail
 refine H0.out.mono ?_
 clear H0
 intro e w' h
 rcases h with ⟨rfl, h1, h2⟩ | ⟨i, hi, rfl, h0, h1, h2⟩
 ·have HF : CtPost xs.length p Inv Fin (.returned (.bool false)) w' := .inl ⟨rfl, h1, h2⟩
  have HF := Aside0.mk HF
  clear h1 h2
  go_wp2
  go_ret
  exact HF.out
 ·have HF : CtPost xs.length p Inv Fin (.returned (.bool true)) w' := .inr ⟨i, hi, rfl, h0, h1, h2⟩
  have HF := Aside0.mk HF
  clear h1 h2 h0
  have hd : decide ((i : Int) ≥ 0) = true := decide_eq_true (by omega)
  go_wp2
  go_ret
  exact HF.out
set_option maxHeartbeats 2000000 in
theorem ix_FArm (g : Nat) (lb : Array Value) (eg : ∀ args w, (callFunc g args).run Tryz.prog w = .ok (.enter g args) w) (w0 w : World) (A : Option Addr) (c : Nat) (xs : List (Int × List FS)) (hC : Kd.C kFA w0 A xs.length xs) (p : Nat → Bool) (Inv Fin : Nat → World → Prop) (hB : ∀ i W, Inv i W → Below w0.heap.size w0 W)
  (hstep : ∀ i W cs, i < xs.length → Inv i W → kFA.K w0 (xs.getD i ((0, []) : Int × List FS)) cs → Calls Tryz.prog g (#[(.agg cs.toArray)] ++ lb) W fun e W' => e = .returned (.bool (p i)) ∧ (p i = true → Fin i W') ∧ (p i = false → Inv (i + 1) W')) (h0 : Inv 0 w) :
  Calls Tryz.prog 111 #[.slice A xs.length c, .func (.func g) #[] lb] w (IxPost xs.length p Inv Fin) := by
 have hmax : xs.length ≤ 9223372036854775807 := hC.2.1
 have H0 := Aside0.mk h0
 have HC := Aside0.mk hC
 have HS := Aside0.mk hstep
 have HBB := Aside0.mk hB
 clear h0 hC hstep hB
 go_enter Tryz.func111, Tryz.ntmps111
 go_wp2
 go_loopg [5, 8] xs.length (fun gg _ s8 wr => ∃ kk : Nat, kk ≤ xs.length ∧ xs.length - kk ≤ gg ∧ s8 = .int .i64 kk ∧ Aside0 (Inv kk wr) ∧ Aside0 (∀ j, j < kk → p j = false))
 case atStart => exact ⟨0, Nat.zero_le _, by omega, rfl, H0, ⟨fun j hj => absurd hj (Nat.not_lt_zero _)⟩⟩
 case round =>
  obtain ⟨kk, hkk, hg, rfl, I, N⟩ := hrel
  have HB := Aside0.mk (HBB.out kk wr I.out)
  by_cases hlt : kk < xs.length
  ·have hltz : (kk : Int) < (xs.length : Int) := by omega
   have hC := HC.out
   have hstep := HS.out
   obtain ⟨ad, cs, rfl, _, hK, hcc⟩ := Kd.C_get hC ((0, []) : Int × List FS) (kk : Int) (by omega) (by omega)
   have hK' := hK
   obtain ⟨A1, c1, rfl, _⟩ := kFA_open hK'
   have hx0 := (HB.out.cell (World.block_lt_of_cell? w0 _ (hcc 0 _ rfl))).trans (hcc 0 _ rfl)
   have hx1 := (HB.out.cell (World.block_lt_of_cell? w0 _ (hcc 1 _ rfl))).trans (hcc 1 _ rfl)
   rw [show (kFA).sz = 2 from rfl, Nat.add_zero, Int.toNat_natCast] at hx0
   rw [show (kFA).sz = 2 from rfl, Int.toNat_natCast, add_field _ _ 1 (by omega)] at hx1
   have hcall := hstep kk wr _ (by omega) I.out hK
   clear hcc hstep hC
   try simp only [Int.toNat_natCast] at hcall
   try simp only [Int.toNat_natCast] at hx0 hx1
   generalize xs.getD kk ((0, []) : Int × List FS) = y at hcall hx0 hx1 hK
   clear hK
   cases hq : p kk with
   | true =>
    rw [hq] at hcall
    have Hq := Aside0.mk hq
    clear hq
    go_wp2_with (go_at_fn g; refine hcall.mono ?_; rintro e w' ⟨rfl, hf, _⟩; have HF := Aside0.mk (hf rfl); clear hf)
    go_ret
    exact .inr ⟨kk, hlt, rfl, N.out, Hq.out, HF.out⟩
   | false =>
    rw [hq] at hcall
    have Hq := Aside0.mk hq
    clear hq
    go_wp2_with (go_at_fn g; refine hcall.mono ?_; rintro e w' ⟨rfl, _, hf⟩; have HF := Aside0.mk (hf rfl); clear hf)
    go_roundg (xs.length - (kk + 1))
    case measure => omega
    case rel =>
     refine ⟨kk + 1, by omega, by omega, by go_num, HF, ⟨fun j hj => ?_⟩⟩
     by_cases e : j = kk
     ·subst e; exact Hq.out
     ·exact N.out j (by omega)
  ·have hltz : ¬ (kk : Int) < (xs.length : Int) := by omega
   obtain rfl : kk = xs.length := by omega
   go_wp2
   go_ret
   exact .inl ⟨rfl, N.out, I.out⟩
theorem ct_FArm (g : Nat) (lb : Array Value) (eg : ∀ args w, (callFunc g args).run Tryz.prog w = .ok (.enter g args) w) (w0 w : World) (A : Option Addr) (c : Nat) (xs : List (Int × List FS)) (hC : Kd.C kFA w0 A xs.length xs) (p : Nat → Bool) (Inv Fin : Nat → World → Prop) (hB : ∀ i W, Inv i W → Below w0.heap.size w0 W)
  (hstep : ∀ i W cs, i < xs.length → Inv i W → kFA.K w0 (xs.getD i ((0, []) : Int × List FS)) cs → Calls Tryz.prog g (#[(.agg cs.toArray)] ++ lb) W fun e W' => e = .returned (.bool (p i)) ∧ (p i = true → Fin i W') ∧ (p i = false → Inv (i + 1) W')) (h0 : Inv 0 w) :
  Calls Tryz.prog 104 #[.slice A xs.length c, .func (.func g) #[] lb] w (CtPost xs.length p Inv Fin) := by
 have hix := ix_FArm g lb eg w0 w A c xs hC p Inv Fin hB hstep h0
 have H0 := Aside0.mk hix
 clear h0 hC hstep hB eg hix
 go_enter Tryz.func104, Tryz.ntmps104
 go_wp2_with fail
 refine H0.out.mono ?_
 clear H0
 intro e w' h
 rcases h with ⟨rfl, h1, h2⟩ | ⟨i, hi, rfl, h0, h1, h2⟩
 ·have HF : CtPost xs.length p Inv Fin (.returned (.bool false)) w' := .inl ⟨rfl, h1, h2⟩
  have HF := Aside0.mk HF
  clear h1 h2
  go_wp2
  go_ret
  exact HF.out
 ·have HF : CtPost xs.length p Inv Fin (.returned (.bool true)) w' := .inr ⟨i, hi, rfl, h0, h1, h2⟩
  have HF := Aside0.mk HF
  clear h1 h2 h0
  have hd : decide ((i : Int) ≥ 0) = true := decide_eq_true (by omega)
  go_wp2
  go_ret
  exact HF.out
set_option maxHeartbeats 2000000 in
theorem ix_int (g : Nat) (lb : Array Value) (eg : ∀ args w, (callFunc g args).run Tryz.prog w = .ok (.enter g args) w) (w0 w : World) (A : Option Addr) (c : Nat) (xs : List Int) (hC : Kd.C (Kd.int .i64) w0 A xs.length xs) (p : Nat → Bool) (Inv Fin : Nat → World → Prop) (hB : ∀ i W, Inv i W → Below w0.heap.size w0 W)
  (hstep : ∀ i W, i < xs.length → Inv i W → Calls Tryz.prog g (#[(.int .i64 (xs.getD i (0 : Int)))] ++ lb) W fun e W' => e = .returned (.bool (p i)) ∧ (p i = true → Fin i W') ∧ (p i = false → Inv (i + 1) W')) (h0 : Inv 0 w) :
  Calls Tryz.prog 106 #[.slice A xs.length c, .func (.func g) #[] lb] w (IxPost xs.length p Inv Fin) := by
 have hmax : xs.length ≤ 9223372036854775807 := hC.2.1
 have H0 := Aside0.mk h0
 have HC := Aside0.mk hC
 have HS := Aside0.mk hstep
 have HBB := Aside0.mk hB
 clear h0 hC hstep hB
 go_enter Tryz.func106, Tryz.ntmps106
 go_wp2
 go_loopg [5, 8] xs.length (fun gg _ s8 wr => ∃ kk : Nat, kk ≤ xs.length ∧ xs.length - kk ≤ gg ∧ s8 = .int .i64 kk ∧ Aside0 (Inv kk wr) ∧ Aside0 (∀ j, j < kk → p j = false))
 case atStart => exact ⟨0, Nat.zero_le _, by omega, rfl, H0, ⟨fun j hj => absurd hj (Nat.not_lt_zero _)⟩⟩
 case round =>
  obtain ⟨kk, hkk, hg, rfl, I, N⟩ := hrel
  have HB := Aside0.mk (HBB.out kk wr I.out)
  by_cases hlt : kk < xs.length
  ·have hltz : (kk : Int) < (xs.length : Int) := by omega
   have hC := HC.out
   have hstep := HS.out
   obtain ⟨ad, cs, rfl, _, hK, hcc⟩ := Kd.C_get hC (0 : Int) (kk : Int) (by omega) (by omega)
   obtain rfl := hK
   have hx0 := (HB.out.cell (World.block_lt_of_cell? w0 _ (hcc 0 _ rfl))).trans (hcc 0 _ rfl)
   simp only [show (Kd.int .i64).sz = 1 from rfl, Nat.mul_one, Nat.add_zero, Int.toNat_natCast] at hx0
   have hcall := hstep kk wr (by omega) I.out
   clear hcc hstep hC
   try simp only [Int.toNat_natCast] at hcall
   try simp only [Int.toNat_natCast] at hx0
   generalize xs.getD kk (0 : Int) = y at hcall hx0
   cases hq : p kk with
   | true =>
    rw [hq] at hcall
    have Hq := Aside0.mk hq
    clear hq
    go_wp2_with (go_at_fn g; refine hcall.mono ?_; rintro e w' ⟨rfl, hf, _⟩; have HF := Aside0.mk (hf rfl); clear hf)
    go_ret
    exact .inr ⟨kk, hlt, rfl, N.out, Hq.out, HF.out⟩
   | false =>
    rw [hq] at hcall
    have Hq := Aside0.mk hq
    clear hq
    go_wp2_with (go_at_fn g; refine hcall.mono ?_; rintro e w' ⟨rfl, _, hf⟩; have HF := Aside0.mk (hf rfl); clear hf)
    go_roundg (xs.length - (kk + 1))
    case measure => omega
    case rel =>
     refine ⟨kk + 1, by omega, by omega, by go_num, HF, ⟨fun j hj => ?_⟩⟩
     by_cases e : j = kk
     ·subst e; exact Hq.out
     ·exact N.out j (by omega)
  ·have hltz : ¬ (kk : Int) < (xs.length : Int) := by omega
   obtain rfl : kk = xs.length := by omega
   go_wp2
   go_ret
   exact .inl ⟨rfl, N.out, I.out⟩
theorem ct_int (g : Nat) (lb : Array Value) (eg : ∀ args w, (callFunc g args).run Tryz.prog w = .ok (.enter g args) w) (w0 w : World) (A : Option Addr) (c : Nat) (xs : List Int) (hC : Kd.C (Kd.int .i64) w0 A xs.length xs) (p : Nat → Bool) (Inv Fin : Nat → World → Prop) (hB : ∀ i W, Inv i W → Below w0.heap.size w0 W)
  (hstep : ∀ i W, i < xs.length → Inv i W → Calls Tryz.prog g (#[(.int .i64 (xs.getD i (0 : Int)))] ++ lb) W fun e W' => e = .returned (.bool (p i)) ∧ (p i = true → Fin i W') ∧ (p i = false → Inv (i + 1) W')) (h0 : Inv 0 w) :
  Calls Tryz.prog 67 #[.slice A xs.length c, .func (.func g) #[] lb] w (CtPost xs.length p Inv Fin) := by
 have hix := ix_int g lb eg w0 w A c xs hC p Inv Fin hB hstep h0
 have H0 := Aside0.mk hix
 clear h0 hC hstep hB eg hix
 go_enter Tryz.func67, Tryz.ntmps67
 go_wp2_with fail
 refine H0.out.mono ?_
 clear H0
 intro e w' h
 rcases h with ⟨rfl, h1, h2⟩ | ⟨i, hi, rfl, h0, h1, h2⟩
 ·have HF : CtPost xs.length p Inv Fin (.returned (.bool false)) w' := .inl ⟨rfl, h1, h2⟩
  have HF := Aside0.mk HF
  clear h1 h2
  go_wp2
  go_ret
  exact HF.out
 ·have HF : CtPost xs.length p Inv Fin (.returned (.bool true)) w' := .inr ⟨i, hi, rfl, h0, h1, h2⟩
  have HF := Aside0.mk HF
  clear h1 h2 h0
  have hd : decide ((i : Int) ≥ 0) = true := decide_eq_true (by omega)
  go_wp2
  go_ret
  exact HF.out
end Go.Proofs.YticndoihkfbpoaaGreatDoor
