/- slices.IndexFunc and slices.ContainsFunc at the program's element types, whatever the function value does: a relation between the rounds. -/
import Derived.Test.YtggfnbnochmkdaaGreatBase
import Derived.Test.YtggfnbnochmkdaaGreatPScopex0
namespace Go.Proofs.YtggfnbnochmkdaaGreat
open Go Go.RowKit Go.Lib Go.Proofs.YtggfnbnochmkdaaGreatW.PrintWords Go.Proofs.YtggfnbnochmkdaaGreat.PScope
set_option maxRecDepth 100000
set_option linter.unusedSimpArgs false
set_option linter.unusedVariables false
def IxPost (n : Nat) (p : Nat → Bool) (Inv Fin : Nat → World → Prop) (e : Ending) (w' : World) : Prop :=
 (e = .returned (.int .i64 (-1)) ∧ (∀ i, i < n → p i = false) ∧ Inv n w') ∨ ∃ i : Nat, i < n ∧ e = .returned (.int .i64 (i : Int)) ∧ (∀ j, j < i → p j = false) ∧ p i = true ∧ Fin i w'
def CtPost (n : Nat) (p : Nat → Bool) (Inv Fin : Nat → World → Prop) (e : Ending) (w' : World) : Prop :=
 (e = .returned (.bool false) ∧ (∀ i, i < n → p i = false) ∧ Inv n w') ∨ ∃ i : Nat, i < n ∧ e = .returned (.bool true) ∧ (∀ j, j < i → p j = false) ∧ p i = true ∧ Fin i w'
theorem any_getD_false {α : Type} (xs : List α) (q : α → Bool) (z : α) (h : ∀ i, i < xs.length → q (xs.getD i z) = false) : xs.any q = false := by
 rw [List.any_eq_false]
 intro x hx
 obtain ⟨i, hi⟩ := List.getElem?_of_mem hx
 have hl := (List.getElem?_eq_some_iff.1 hi).1
 have := h i hl
 rw [List.getD_eq_getElem?_getD, hi] at this
 simpa using this
theorem any_getD_true {α : Type} (xs : List α) (q : α → Bool) (z : α) (i : Nat) (hi : i < xs.length) (h : q (xs.getD i z) = true) : xs.any q = true := by
 rw [List.any_eq_true]
 refine ⟨xs.getD i z, ?_, h⟩
 rw [List.getD_eq_getElem?_getD, List.getElem?_eq_getElem hi]
 exact List.getElem_mem hi
theorem CtPost.any {α : Type} {xs : List α} {q : α → Bool} {z : α} {I : World → Prop} {e : Ending} {w' : World} (h : CtPost xs.length (fun i => q (xs.getD i z)) (fun _ W => I W) (fun _ W => I W) e w') :
   e = .returned (.bool (xs.any q)) ∧ I w' := by
 rcases h with ⟨rfl, h1, h2⟩ | ⟨i, hi, rfl, _, h1, h2⟩
 · rw [any_getD_false xs q z h1]; exact ⟨rfl, h2⟩
 · rw [any_getD_true xs q z i hi h1]; exact ⟨rfl, h2⟩
set_option maxHeartbeats 2000000 in
theorem ix_Node (g : Nat) (lb : Array Value) (eg : ∀ args w, (callFunc g args).run Tryz.prog w = .ok (.enter g args) w) (w0 w : World) (A : Option Addr) (c : Nat) (xs : List S35) (hC : Kd.C k35 w0 A xs.length xs) (p : Nat → Bool) (Inv Fin : Nat → World → Prop) (hB : ∀ i W, Inv i W → Below w0.heap.size w0 W)
   (hstep : ∀ i W cs, i < xs.length → Inv i W → k35.K w0 (xs.getD i z35) cs → Calls Tryz.prog g (#[(.agg cs.toArray)] ++ lb) W fun e W' => e = .returned (.bool (p i)) ∧ (p i = true → Fin i W') ∧ (p i = false → Inv (i + 1) W')) (h0 : Inv 0 w) :
   Calls Tryz.prog 70 #[.slice A xs.length c, .func (.func g) #[] lb] w (IxPost xs.length p Inv Fin) := by
 have hmax : xs.length ≤ 9223372036854775807 := hC.2.1
 have H0 := Aside0.mk h0
 have HC := Aside0.mk hC
 have HS := Aside0.mk hstep
 have HBB := Aside0.mk hB
 clear h0 hC hstep hB
 go_enter Tryz.func70, Tryz.ntmps70
 go_wp2
 go_loopg [5, 8] xs.length (fun gg _ s8 wr => ∃ kk : Nat, kk ≤ xs.length ∧ xs.length - kk ≤ gg ∧ s8 = .int .i64 kk ∧ Aside0 (Inv kk wr) ∧ Aside0 (∀ j, j < kk → p j = false))
 case atStart => exact ⟨0, Nat.zero_le _, by omega, rfl, H0, ⟨fun j hj => absurd hj (Nat.not_lt_zero _)⟩⟩
 case round =>
   obtain ⟨kk, hkk, hg, rfl, I, N⟩ := hrel
   have HB := Aside0.mk (HBB.out kk wr I.out)
   by_cases hlt : kk < xs.length
   · have hltz : (kk : Int) < (xs.length : Int) := by omega
     have hC := HC.out
     have hstep := HS.out
     obtain ⟨ad, cs, rfl, _, hK, hcc⟩ := Kd.C_get hC z35 (kk : Int) (by omega) (by omega)
     have hK' := hK
     obtain ⟨A1, c1, A2, c2, A3, c3, A4, c4, rfl, _⟩ := k35_open hK'
     have hx0 := (HB.out.cell (World.block_lt_of_cell? w0 _ (hcc 0 _ rfl))).trans (hcc 0 _ rfl)
     have hx1 := (HB.out.cell (World.block_lt_of_cell? w0 _ (hcc 1 _ rfl))).trans (hcc 1 _ rfl)
     have hx2 := (HB.out.cell (World.block_lt_of_cell? w0 _ (hcc 2 _ rfl))).trans (hcc 2 _ rfl)
     have hx3 := (HB.out.cell (World.block_lt_of_cell? w0 _ (hcc 3 _ rfl))).trans (hcc 3 _ rfl)
     have hx4 := (HB.out.cell (World.block_lt_of_cell? w0 _ (hcc 4 _ rfl))).trans (hcc 4 _ rfl)
     rw [show (k35).sz = 5 from rfl, Nat.add_zero, Int.toNat_natCast] at hx0
     rw [show (k35).sz = 5 from rfl, Int.toNat_natCast, add_field _ _ 1 (by omega)] at hx1
     rw [show (k35).sz = 5 from rfl, Int.toNat_natCast, add_field _ _ 2 (by omega)] at hx2
     rw [show (k35).sz = 5 from rfl, Int.toNat_natCast, add_field _ _ 3 (by omega)] at hx3
     rw [show (k35).sz = 5 from rfl, Int.toNat_natCast, add_field _ _ 4 (by omega)] at hx4
     have hcall := hstep kk wr _ (by omega) I.out hK
     clear hcc hstep hC
     try simp only [Int.toNat_natCast] at hcall
     try simp only [Int.toNat_natCast] at hx0 hx1 hx2 hx3 hx4
     generalize xs.getD kk z35 = y at hcall hx0 hx1 hx2 hx3 hx4 hK
     clear hK
     cases hq : p kk with
     | true =>
       rw [hq] at hcall
       have Hq := Aside0.mk hq
       clear hq
       go_wp2_with (go_at_fn g; refine hcall.mono ?_; rintro e w' ⟨rfl, hf, _⟩; have HF := Aside0.mk (hf rfl); clear hf)
       go_ret
       exact .inr ⟨kk, hlt, rfl, N.out, Hq.out, HF.out⟩
     | false =>
       rw [hq] at hcall
       have Hq := Aside0.mk hq
       clear hq
       go_wp2_with (go_at_fn g; refine hcall.mono ?_; rintro e w' ⟨rfl, _, hf⟩; have HF := Aside0.mk (hf rfl); clear hf)
       go_roundg (xs.length - (kk + 1))
       case measure => omega
       case rel =>
         refine ⟨kk + 1, by omega, by omega, by go_num, HF, ⟨fun j hj => ?_⟩⟩
         by_cases e : j = kk
         · subst e; exact Hq.out
         · exact N.out j (by omega)
   · have hltz : ¬ (kk : Int) < (xs.length : Int) := by omega
     obtain rfl : kk = xs.length := by omega
     go_wp2
     go_ret
     exact .inl ⟨rfl, N.out, I.out⟩
theorem ct_Node (g : Nat) (lb : Array Value) (eg : ∀ args w, (callFunc g args).run Tryz.prog w = .ok (.enter g args) w) (w0 w : World) (A : Option Addr) (c : Nat) (xs : List S35) (hC : Kd.C k35 w0 A xs.length xs) (p : Nat → Bool) (Inv Fin : Nat → World → Prop) (hB : ∀ i W, Inv i W → Below w0.heap.size w0 W)
   (hstep : ∀ i W cs, i < xs.length → Inv i W → k35.K w0 (xs.getD i z35) cs → Calls Tryz.prog g (#[(.agg cs.toArray)] ++ lb) W fun e W' => e = .returned (.bool (p i)) ∧ (p i = true → Fin i W') ∧ (p i = false → Inv (i + 1) W')) (h0 : Inv 0 w) :
   Calls Tryz.prog 48 #[.slice A xs.length c, .func (.func g) #[] lb] w (CtPost xs.length p Inv Fin) := by
 have hix := ix_Node g lb eg w0 w A c xs hC p Inv Fin hB hstep h0
 have H0 := Aside0.mk hix
 clear h0 hC hstep hB eg hix
 go_enter Tryz.func48, Tryz.ntmps48
 go_wp2_with fail
 refine H0.out.mono ?_
 clear H0
 intro e w' h
 rcases h with ⟨rfl, h1, h2⟩ | ⟨i, hi, rfl, h0, h1, h2⟩
 · have HF : CtPost xs.length p Inv Fin (.returned (.bool false)) w' := .inl ⟨rfl, h1, h2⟩
   have HF := Aside0.mk HF
   clear h1 h2
   go_wp2
   go_ret
   exact HF.out
 · have HF : CtPost xs.length p Inv Fin (.returned (.bool true)) w' := .inr ⟨i, hi, rfl, h0, h1, h2⟩
   have HF := Aside0.mk HF
   clear h1 h2 h0
   have hd : decide ((i : Int) ≥ 0) = true := decide_eq_true (by omega)
   go_wp2
   go_ret
   exact HF.out
set_option maxHeartbeats 2000000 in
theorem ix_State (g : Nat) (lb : Array Value) (eg : ∀ args w, (callFunc g args).run Tryz.prog w = .ok (.enter g args) w) (w0 w : World) (A : Option Addr) (c : Nat) (xs : List S65) (hC : Kd.C k65 w0 A xs.length xs) (p : Nat → Bool) (Inv Fin : Nat → World → Prop) (hB : ∀ i W, Inv i W → Below w0.heap.size w0 W)
   (hstep : ∀ i W cs, i < xs.length → Inv i W → k65.K w0 (xs.getD i z65) cs → Calls Tryz.prog g (#[(.agg cs.toArray)] ++ lb) W fun e W' => e = .returned (.bool (p i)) ∧ (p i = true → Fin i W') ∧ (p i = false → Inv (i + 1) W')) (h0 : Inv 0 w) :
   Calls Tryz.prog 76 #[.slice A xs.length c, .func (.func g) #[] lb] w (IxPost xs.length p Inv Fin) := by
 have hmax : xs.length ≤ 9223372036854775807 := hC.2.1
 have H0 := Aside0.mk h0
 have HC := Aside0.mk hC
 have HS := Aside0.mk hstep
 have HBB := Aside0.mk hB
 clear h0 hC hstep hB
 go_enter Tryz.func76, Tryz.ntmps76
 go_wp2
 go_loopg [5, 8] xs.length (fun gg _ s8 wr => ∃ kk : Nat, kk ≤ xs.length ∧ xs.length - kk ≤ gg ∧ s8 = .int .i64 kk ∧ Aside0 (Inv kk wr) ∧ Aside0 (∀ j, j < kk → p j = false))
 case atStart => exact ⟨0, Nat.zero_le _, by omega, rfl, H0, ⟨fun j hj => absurd hj (Nat.not_lt_zero _)⟩⟩
 case round =>
   obtain ⟨kk, hkk, hg, rfl, I, N⟩ := hrel
   have HB := Aside0.mk (HBB.out kk wr I.out)
   by_cases hlt : kk < xs.length
   · have hltz : (kk : Int) < (xs.length : Int) := by omega
     have hC := HC.out
     have hstep := HS.out
     obtain ⟨ad, cs, rfl, _, hK, hcc⟩ := Kd.C_get hC z65 (kk : Int) (by omega) (by omega)
     have hK' := hK
     obtain ⟨A1, c1, A2, c2, rfl, _⟩ := k65_open hK'
     have hx0 := (HB.out.cell (World.block_lt_of_cell? w0 _ (hcc 0 _ rfl))).trans (hcc 0 _ rfl)
     have hx1 := (HB.out.cell (World.block_lt_of_cell? w0 _ (hcc 1 _ rfl))).trans (hcc 1 _ rfl)
     have hx2 := (HB.out.cell (World.block_lt_of_cell? w0 _ (hcc 2 _ rfl))).trans (hcc 2 _ rfl)
     rw [show (k65).sz = 3 from rfl, Nat.add_zero, Int.toNat_natCast] at hx0
     rw [show (k65).sz = 3 from rfl, Int.toNat_natCast, add_field _ _ 1 (by omega)] at hx1
     rw [show (k65).sz = 3 from rfl, Int.toNat_natCast, add_field _ _ 2 (by omega)] at hx2
     have hcall := hstep kk wr _ (by omega) I.out hK
     clear hcc hstep hC
     try simp only [Int.toNat_natCast] at hcall
     try simp only [Int.toNat_natCast] at hx0 hx1 hx2
     generalize xs.getD kk z65 = y at hcall hx0 hx1 hx2 hK
     clear hK
     cases hq : p kk with
     | true =>
       rw [hq] at hcall
       have Hq := Aside0.mk hq
       clear hq
       go_wp2_with (go_at_fn g; refine hcall.mono ?_; rintro e w' ⟨rfl, hf, _⟩; have HF := Aside0.mk (hf rfl); clear hf)
       go_ret
       exact .inr ⟨kk, hlt, rfl, N.out, Hq.out, HF.out⟩
     | false =>
       rw [hq] at hcall
       have Hq := Aside0.mk hq
       clear hq
       go_wp2_with (go_at_fn g; refine hcall.mono ?_; rintro e w' ⟨rfl, _, hf⟩; have HF := Aside0.mk (hf rfl); clear hf)
       go_roundg (xs.length - (kk + 1))
       case measure => omega
       case rel =>
         refine ⟨kk + 1, by omega, by omega, by go_num, HF, ⟨fun j hj => ?_⟩⟩
         by_cases e : j = kk
         · subst e; exact Hq.out
         · exact N.out j (by omega)
   · have hltz : ¬ (kk : Int) < (xs.length : Int) := by omega
     obtain rfl : kk = xs.length := by omega
     go_wp2
     go_ret
     exact .inl ⟨rfl, N.out, I.out⟩
theorem ct_State (g : Nat) (lb : Array Value) (eg : ∀ args w, (callFunc g args).run Tryz.prog w = .ok (.enter g args) w) (w0 w : World) (A : Option Addr) (c : Nat) (xs : List S65) (hC : Kd.C k65 w0 A xs.length xs) (p : Nat → Bool) (Inv Fin : Nat → World → Prop) (hB : ∀ i W, Inv i W → Below w0.heap.size w0 W)
   (hstep : ∀ i W cs, i < xs.length → Inv i W → k65.K w0 (xs.getD i z65) cs → Calls Tryz.prog g (#[(.agg cs.toArray)] ++ lb) W fun e W' => e = .returned (.bool (p i)) ∧ (p i = true → Fin i W') ∧ (p i = false → Inv (i + 1) W')) (h0 : Inv 0 w) :
   Calls Tryz.prog 53 #[.slice A xs.length c, .func (.func g) #[] lb] w (CtPost xs.length p Inv Fin) := by
 have hix := ix_State g lb eg w0 w A c xs hC p Inv Fin hB hstep h0
 have H0 := Aside0.mk hix
 clear h0 hC hstep hB eg hix
 go_enter Tryz.func53, Tryz.ntmps53
 go_wp2_with fail
 refine H0.out.mono ?_
 clear H0
 intro e w' h
 rcases h with ⟨rfl, h1, h2⟩ | ⟨i, hi, rfl, h0, h1, h2⟩
 · have HF : CtPost xs.length p Inv Fin (.returned (.bool false)) w' := .inl ⟨rfl, h1, h2⟩
   have HF := Aside0.mk HF
   clear h1 h2
   go_wp2
   go_ret
   exact HF.out
 · have HF : CtPost xs.length p Inv Fin (.returned (.bool true)) w' := .inr ⟨i, hi, rfl, h0, h1, h2⟩
   have HF := Aside0.mk HF
   clear h1 h2 h0
   have hd : decide ((i : Int) ≥ 0) = true := decide_eq_true (by omega)
   go_wp2
   go_ret
   exact HF.out
set_option maxHeartbeats 2000000 in
theorem ix_Item (g : Nat) (lb : Array Value) (eg : ∀ args w, (callFunc g args).run Tryz.prog w = .ok (.enter g args) w) (w0 w : World) (A : Option Addr) (c : Nat) (xs : List S47) (hC : Kd.C k47 w0 A xs.length xs) (p : Nat → Bool) (Inv Fin : Nat → World → Prop) (hB : ∀ i W, Inv i W → Below w0.heap.size w0 W)
   (hstep : ∀ i W cs, i < xs.length → Inv i W → k47.K w0 (xs.getD i z47) cs → Calls Tryz.prog g (#[(.agg cs.toArray)] ++ lb) W fun e W' => e = .returned (.bool (p i)) ∧ (p i = true → Fin i W') ∧ (p i = false → Inv (i + 1) W')) (h0 : Inv 0 w) :
   Calls Tryz.prog 96 #[.slice A xs.length c, .func (.func g) #[] lb] w (IxPost xs.length p Inv Fin) := by
 have hmax : xs.length ≤ 9223372036854775807 := hC.2.1
 have H0 := Aside0.mk h0
 have HC := Aside0.mk hC
 have HS := Aside0.mk hstep
 have HBB := Aside0.mk hB
 clear h0 hC hstep hB
 go_enter Tryz.func96, Tryz.ntmps96
 go_wp2
 go_loopg [5, 8] xs.length (fun gg _ s8 wr => ∃ kk : Nat, kk ≤ xs.length ∧ xs.length - kk ≤ gg ∧ s8 = .int .i64 kk ∧ Aside0 (Inv kk wr) ∧ Aside0 (∀ j, j < kk → p j = false))
 case atStart => exact ⟨0, Nat.zero_le _, by omega, rfl, H0, ⟨fun j hj => absurd hj (Nat.not_lt_zero _)⟩⟩
 case round =>
   obtain ⟨kk, hkk, hg, rfl, I, N⟩ := hrel
   have HB := Aside0.mk (HBB.out kk wr I.out)
   by_cases hlt : kk < xs.length
   · have hltz : (kk : Int) < (xs.length : Int) := by omega
     have hC := HC.out
     have hstep := HS.out
     obtain ⟨ad, cs, rfl, _, hK, hcc⟩ := Kd.C_get hC z47 (kk : Int) (by omega) (by omega)
     have hK' := hK
     obtain ⟨A0, c0, A4, c4, A5, c5, A6, c6, rfl, _⟩ := k47_open hK'
     have hx0 := (HB.out.cell (World.block_lt_of_cell? w0 _ (hcc 0 _ rfl))).trans (hcc 0 _ rfl)
     have hx1 := (HB.out.cell (World.block_lt_of_cell? w0 _ (hcc 1 _ rfl))).trans (hcc 1 _ rfl)
     have hx2 := (HB.out.cell (World.block_lt_of_cell? w0 _ (hcc 2 _ rfl))).trans (hcc 2 _ rfl)
     have hx3 := (HB.out.cell (World.block_lt_of_cell? w0 _ (hcc 3 _ rfl))).trans (hcc 3 _ rfl)
     have hx4 := (HB.out.cell (World.block_lt_of_cell? w0 _ (hcc 4 _ rfl))).trans (hcc 4 _ rfl)
     have hx5 := (HB.out.cell (World.block_lt_of_cell? w0 _ (hcc 5 _ rfl))).trans (hcc 5 _ rfl)
     have hx6 := (HB.out.cell (World.block_lt_of_cell? w0 _ (hcc 6 _ rfl))).trans (hcc 6 _ rfl)
     rw [show (k47).sz = 7 from rfl, Nat.add_zero, Int.toNat_natCast] at hx0
     rw [show (k47).sz = 7 from rfl, Int.toNat_natCast, add_field _ _ 1 (by omega)] at hx1
     rw [show (k47).sz = 7 from rfl, Int.toNat_natCast, add_field _ _ 2 (by omega)] at hx2
     rw [show (k47).sz = 7 from rfl, Int.toNat_natCast, add_field _ _ 3 (by omega)] at hx3
     rw [show (k47).sz = 7 from rfl, Int.toNat_natCast, add_field _ _ 4 (by omega)] at hx4
     rw [show (k47).sz = 7 from rfl, Int.toNat_natCast, add_field _ _ 5 (by omega)] at hx5
     rw [show (k47).sz = 7 from rfl, Int.toNat_natCast, add_field _ _ 6 (by omega)] at hx6
     have hcall := hstep kk wr _ (by omega) I.out hK
     clear hcc hstep hC
     try simp only [Int.toNat_natCast] at hcall
     try simp only [Int.toNat_natCast] at hx0 hx1 hx2 hx3 hx4 hx5 hx6
     generalize xs.getD kk z47 = y at hcall hx0 hx1 hx2 hx3 hx4 hx5 hx6 hK
     clear hK
     cases hq : p kk with
     | true =>
       rw [hq] at hcall
       have Hq := Aside0.mk hq
       clear hq
       go_wp2_with (go_at_fn g; refine hcall.mono ?_; rintro e w' ⟨rfl, hf, _⟩; have HF := Aside0.mk (hf rfl); clear hf)
       go_ret
       exact .inr ⟨kk, hlt, rfl, N.out, Hq.out, HF.out⟩
     | false =>
       rw [hq] at hcall
       have Hq := Aside0.mk hq
       clear hq
       go_wp2_with (go_at_fn g; refine hcall.mono ?_; rintro e w' ⟨rfl, _, hf⟩; have HF := Aside0.mk (hf rfl); clear hf)
       go_roundg (xs.length - (kk + 1))
       case measure => omega
       case rel =>
         refine ⟨kk + 1, by omega, by omega, by go_num, HF, ⟨fun j hj => ?_⟩⟩
         by_cases e : j = kk
         · subst e; exact Hq.out
         · exact N.out j (by omega)
   · have hltz : ¬ (kk : Int) < (xs.length : Int) := by omega
     obtain rfl : kk = xs.length := by omega
     go_wp2
     go_ret
     exact .inl ⟨rfl, N.out, I.out⟩
theorem ct_Item (g : Nat) (lb : Array Value) (eg : ∀ args w, (callFunc g args).run Tryz.prog w = .ok (.enter g args) w) (w0 w : World) (A : Option Addr) (c : Nat) (xs : List S47) (hC : Kd.C k47 w0 A xs.length xs) (p : Nat → Bool) (Inv Fin : Nat → World → Prop) (hB : ∀ i W, Inv i W → Below w0.heap.size w0 W)
   (hstep : ∀ i W cs, i < xs.length → Inv i W → k47.K w0 (xs.getD i z47) cs → Calls Tryz.prog g (#[(.agg cs.toArray)] ++ lb) W fun e W' => e = .returned (.bool (p i)) ∧ (p i = true → Fin i W') ∧ (p i = false → Inv (i + 1) W')) (h0 : Inv 0 w) :
   Calls Tryz.prog 71 #[.slice A xs.length c, .func (.func g) #[] lb] w (CtPost xs.length p Inv Fin) := by
 have hix := ix_Item g lb eg w0 w A c xs hC p Inv Fin hB hstep h0
 have H0 := Aside0.mk hix
 clear h0 hC hstep hB eg hix
 go_enter Tryz.func71, Tryz.ntmps71
 go_wp2_with fail
 refine H0.out.mono ?_
 clear H0
 intro e w' h
 rcases h with ⟨rfl, h1, h2⟩ | ⟨i, hi, rfl, h0, h1, h2⟩
 · have HF : CtPost xs.length p Inv Fin (.returned (.bool false)) w' := .inl ⟨rfl, h1, h2⟩
   have HF := Aside0.mk HF
   clear h1 h2
   go_wp2
   go_ret
   exact HF.out
 · have HF : CtPost xs.length p Inv Fin (.returned (.bool true)) w' := .inr ⟨i, hi, rfl, h0, h1, h2⟩
   have HF := Aside0.mk HF
   clear h1 h2 h0
   have hd : decide ((i : Int) ≥ 0) = true := decide_eq_true (by omega)
   go_wp2
   go_ret
   exact HF.out
set_option maxHeartbeats 2000000 in
theorem ix_Enum (g : Nat) (lb : Array Value) (eg : ∀ args w, (callFunc g args).run Tryz.prog w = .ok (.enter g args) w) (w0 w : World) (A : Option Addr) (c : Nat) (xs : List S38) (hC : Kd.C k38 w0 A xs.length xs) (p : Nat → Bool) (Inv Fin : Nat → World → Prop) (hB : ∀ i W, Inv i W → Below w0.heap.size w0 W)
   (hstep : ∀ i W cs, i < xs.length → Inv i W → k38.K w0 (xs.getD i z38) cs → Calls Tryz.prog g (#[(.agg cs.toArray)] ++ lb) W fun e W' => e = .returned (.bool (p i)) ∧ (p i = true → Fin i W') ∧ (p i = false → Inv (i + 1) W')) (h0 : Inv 0 w) :
   Calls Tryz.prog 114 #[.slice A xs.length c, .func (.func g) #[] lb] w (IxPost xs.length p Inv Fin) := by
 have hmax : xs.length ≤ 9223372036854775807 := hC.2.1
 have H0 := Aside0.mk h0
 have HC := Aside0.mk hC
 have HS := Aside0.mk hstep
 have HBB := Aside0.mk hB
 clear h0 hC hstep hB
 go_enter Tryz.func114, Tryz.ntmps114
 go_wp2
 go_loopg [5, 8] xs.length (fun gg _ s8 wr => ∃ kk : Nat, kk ≤ xs.length ∧ xs.length - kk ≤ gg ∧ s8 = .int .i64 kk ∧ Aside0 (Inv kk wr) ∧ Aside0 (∀ j, j < kk → p j = false))
 case atStart => exact ⟨0, Nat.zero_le _, by omega, rfl, H0, ⟨fun j hj => absurd hj (Nat.not_lt_zero _)⟩⟩
 case round =>
   obtain ⟨kk, hkk, hg, rfl, I, N⟩ := hrel
   have HB := Aside0.mk (HBB.out kk wr I.out)
   by_cases hlt : kk < xs.length
   · have hltz : (kk : Int) < (xs.length : Int) := by omega
     have hC := HC.out
     have hstep := HS.out
     obtain ⟨ad, cs, rfl, _, hK, hcc⟩ := Kd.C_get hC z38 (kk : Int) (by omega) (by omega)
     have hK' := hK
     obtain ⟨A1, c1, rfl, _⟩ := k38_open hK'
     have hx0 := (HB.out.cell (World.block_lt_of_cell? w0 _ (hcc 0 _ rfl))).trans (hcc 0 _ rfl)
     have hx1 := (HB.out.cell (World.block_lt_of_cell? w0 _ (hcc 1 _ rfl))).trans (hcc 1 _ rfl)
     rw [show (k38).sz = 2 from rfl, Nat.add_zero, Int.toNat_natCast] at hx0
     rw [show (k38).sz = 2 from rfl, Int.toNat_natCast, add_field _ _ 1 (by omega)] at hx1
     have hcall := hstep kk wr _ (by omega) I.out hK
     clear hcc hstep hC
     try simp only [Int.toNat_natCast] at hcall
     try simp only [Int.toNat_natCast] at hx0 hx1
     generalize xs.getD kk z38 = y at hcall hx0 hx1 hK
     clear hK
     cases hq : p kk with
     | true =>
       rw [hq] at hcall
       have Hq := Aside0.mk hq
       clear hq
       go_wp2_with (go_at_fn g; refine hcall.mono ?_; rintro e w' ⟨rfl, hf, _⟩; have HF := Aside0.mk (hf rfl); clear hf)
       go_ret
       exact .inr ⟨kk, hlt, rfl, N.out, Hq.out, HF.out⟩
     | false =>
       rw [hq] at hcall
       have Hq := Aside0.mk hq
       clear hq
       go_wp2_with (go_at_fn g; refine hcall.mono ?_; rintro e w' ⟨rfl, _, hf⟩; have HF := Aside0.mk (hf rfl); clear hf)
       go_roundg (xs.length - (kk + 1))
       case measure => omega
       case rel =>
         refine ⟨kk + 1, by omega, by omega, by go_num, HF, ⟨fun j hj => ?_⟩⟩
         by_cases e : j = kk
         · subst e; exact Hq.out
         · exact N.out j (by omega)
   · have hltz : ¬ (kk : Int) < (xs.length : Int) := by omega
     obtain rfl : kk = xs.length := by omega
     go_wp2
     go_ret
     exact .inl ⟨rfl, N.out, I.out⟩
theorem ct_Enum (g : Nat) (lb : Array Value) (eg : ∀ args w, (callFunc g args).run Tryz.prog w = .ok (.enter g args) w) (w0 w : World) (A : Option Addr) (c : Nat) (xs : List S38) (hC : Kd.C k38 w0 A xs.length xs) (p : Nat → Bool) (Inv Fin : Nat → World → Prop) (hB : ∀ i W, Inv i W → Below w0.heap.size w0 W)
   (hstep : ∀ i W cs, i < xs.length → Inv i W → k38.K w0 (xs.getD i z38) cs → Calls Tryz.prog g (#[(.agg cs.toArray)] ++ lb) W fun e W' => e = .returned (.bool (p i)) ∧ (p i = true → Fin i W') ∧ (p i = false → Inv (i + 1) W')) (h0 : Inv 0 w) :
   Calls Tryz.prog 103 #[.slice A xs.length c, .func (.func g) #[] lb] w (CtPost xs.length p Inv Fin) := by
 have hix := ix_Enum g lb eg w0 w A c xs hC p Inv Fin hB hstep h0
 have H0 := Aside0.mk hix
 clear h0 hC hstep hB eg hix
 go_enter Tryz.func103, Tryz.ntmps103
 go_wp2_with fail
 refine H0.out.mono ?_
 clear H0
 intro e w' h
 rcases h with ⟨rfl, h1, h2⟩ | ⟨i, hi, rfl, h0, h1, h2⟩
 · have HF : CtPost xs.length p Inv Fin (.returned (.bool false)) w' := .inl ⟨rfl, h1, h2⟩
   have HF := Aside0.mk HF
   clear h1 h2
   go_wp2
   go_ret
   exact HF.out
 · have HF : CtPost xs.length p Inv Fin (.returned (.bool true)) w' := .inr ⟨i, hi, rfl, h0, h1, h2⟩
   have HF := Aside0.mk HF
   clear h1 h2 h0
   have hd : decide ((i : Int) ≥ 0) = true := decide_eq_true (by omega)
   go_wp2
   go_ret
   exact HF.out
set_option maxHeartbeats 2000000 in
theorem ix_Expr (g : Nat) (lb : Array Value) (eg : ∀ args w, (callFunc g args).run Tryz.prog w = .ok (.enter g args) w) (w0 w : World) (A : Option Addr) (c : Nat) (xs : List S42) (hC : Kd.C k42 w0 A xs.length xs) (p : Nat → Bool) (Inv Fin : Nat → World → Prop) (hB : ∀ i W, Inv i W → Below w0.heap.size w0 W)
   (hstep : ∀ i W cs, i < xs.length → Inv i W → k42.K w0 (xs.getD i z42) cs → Calls Tryz.prog g (#[(.agg cs.toArray)] ++ lb) W fun e W' => e = .returned (.bool (p i)) ∧ (p i = true → Fin i W') ∧ (p i = false → Inv (i + 1) W')) (h0 : Inv 0 w) :
   Calls Tryz.prog 125 #[.slice A xs.length c, .func (.func g) #[] lb] w (IxPost xs.length p Inv Fin) := by
 have hmax : xs.length ≤ 9223372036854775807 := hC.2.1
 have H0 := Aside0.mk h0
 have HC := Aside0.mk hC
 have HS := Aside0.mk hstep
 have HBB := Aside0.mk hB
 clear h0 hC hstep hB
 go_enter Tryz.func125, Tryz.ntmps125
 go_wp2
 go_loopg [5, 8] xs.length (fun gg _ s8 wr => ∃ kk : Nat, kk ≤ xs.length ∧ xs.length - kk ≤ gg ∧ s8 = .int .i64 kk ∧ Aside0 (Inv kk wr) ∧ Aside0 (∀ j, j < kk → p j = false))
 case atStart => exact ⟨0, Nat.zero_le _, by omega, rfl, H0, ⟨fun j hj => absurd hj (Nat.not_lt_zero _)⟩⟩
 case round =>
   obtain ⟨kk, hkk, hg, rfl, I, N⟩ := hrel
   have HB := Aside0.mk (HBB.out kk wr I.out)
   by_cases hlt : kk < xs.length
   · have hltz : (kk : Int) < (xs.length : Int) := by omega
     have hC := HC.out
     have hstep := HS.out
     obtain ⟨ad, cs, rfl, _, hK, hcc⟩ := Kd.C_get hC z42 (kk : Int) (by omega) (by omega)
     have hK' := hK
     obtain ⟨A3, c3, A4, c4, rfl, _⟩ := k42_open hK'
     have hx0 := (HB.out.cell (World.block_lt_of_cell? w0 _ (hcc 0 _ rfl))).trans (hcc 0 _ rfl)
     have hx1 := (HB.out.cell (World.block_lt_of_cell? w0 _ (hcc 1 _ rfl))).trans (hcc 1 _ rfl)
     have hx2 := (HB.out.cell (World.block_lt_of_cell? w0 _ (hcc 2 _ rfl))).trans (hcc 2 _ rfl)
     have hx3 := (HB.out.cell (World.block_lt_of_cell? w0 _ (hcc 3 _ rfl))).trans (hcc 3 _ rfl)
     have hx4 := (HB.out.cell (World.block_lt_of_cell? w0 _ (hcc 4 _ rfl))).trans (hcc 4 _ rfl)
     rw [show (k42).sz = 5 from rfl, Nat.add_zero, Int.toNat_natCast] at hx0
     rw [show (k42).sz = 5 from rfl, Int.toNat_natCast, add_field _ _ 1 (by omega)] at hx1
     rw [show (k42).sz = 5 from rfl, Int.toNat_natCast, add_field _ _ 2 (by omega)] at hx2
     rw [show (k42).sz = 5 from rfl, Int.toNat_natCast, add_field _ _ 3 (by omega)] at hx3
     rw [show (k42).sz = 5 from rfl, Int.toNat_natCast, add_field _ _ 4 (by omega)] at hx4
     have hcall := hstep kk wr _ (by omega) I.out hK
     clear hcc hstep hC
     try simp only [Int.toNat_natCast] at hcall
     try simp only [Int.toNat_natCast] at hx0 hx1 hx2 hx3 hx4
     generalize xs.getD kk z42 = y at hcall hx0 hx1 hx2 hx3 hx4 hK
     clear hK
     cases hq : p kk with
     | true =>
       rw [hq] at hcall
       have Hq := Aside0.mk hq
       clear hq
       go_wp2_with (go_at_fn g; refine hcall.mono ?_; rintro e w' ⟨rfl, hf, _⟩; have HF := Aside0.mk (hf rfl); clear hf)
       go_ret
       exact .inr ⟨kk, hlt, rfl, N.out, Hq.out, HF.out⟩
     | false =>
       rw [hq] at hcall
       have Hq := Aside0.mk hq
       clear hq
       go_wp2_with (go_at_fn g; refine hcall.mono ?_; rintro e w' ⟨rfl, _, hf⟩; have HF := Aside0.mk (hf rfl); clear hf)
       go_roundg (xs.length - (kk + 1))
       case measure => omega
       case rel =>
         refine ⟨kk + 1, by omega, by omega, by go_num, HF, ⟨fun j hj => ?_⟩⟩
         by_cases e : j = kk
         · subst e; exact Hq.out
         · exact N.out j (by omega)
   · have hltz : ¬ (kk : Int) < (xs.length : Int) := by omega
     obtain rfl : kk = xs.length := by omega
     go_wp2
     go_ret
     exact .inl ⟨rfl, N.out, I.out⟩
theorem ct_Expr (g : Nat) (lb : Array Value) (eg : ∀ args w, (callFunc g args).run Tryz.prog w = .ok (.enter g args) w) (w0 w : World) (A : Option Addr) (c : Nat) (xs : List S42) (hC : Kd.C k42 w0 A xs.length xs) (p : Nat → Bool) (Inv Fin : Nat → World → Prop) (hB : ∀ i W, Inv i W → Below w0.heap.size w0 W)
   (hstep : ∀ i W cs, i < xs.length → Inv i W → k42.K w0 (xs.getD i z42) cs → Calls Tryz.prog g (#[(.agg cs.toArray)] ++ lb) W fun e W' => e = .returned (.bool (p i)) ∧ (p i = true → Fin i W') ∧ (p i = false → Inv (i + 1) W')) (h0 : Inv 0 w) :
   Calls Tryz.prog 120 #[.slice A xs.length c, .func (.func g) #[] lb] w (CtPost xs.length p Inv Fin) := by
 have hix := ix_Expr g lb eg w0 w A c xs hC p Inv Fin hB hstep h0
 have H0 := Aside0.mk hix
 clear h0 hC hstep hB eg hix
 go_enter Tryz.func120, Tryz.ntmps120
 go_wp2_with fail
 refine H0.out.mono ?_
 clear H0
 intro e w' h
 rcases h with ⟨rfl, h1, h2⟩ | ⟨i, hi, rfl, h0, h1, h2⟩
 · have HF : CtPost xs.length p Inv Fin (.returned (.bool false)) w' := .inl ⟨rfl, h1, h2⟩
   have HF := Aside0.mk HF
   clear h1 h2
   go_wp2
   go_ret
   exact HF.out
 · have HF : CtPost xs.length p Inv Fin (.returned (.bool true)) w' := .inr ⟨i, hi, rfl, h0, h1, h2⟩
   have HF := Aside0.mk HF
   clear h1 h2 h0
   have hd : decide ((i : Int) ≥ 0) = true := decide_eq_true (by omega)
   go_wp2
   go_ret
   exact HF.out
set_option maxHeartbeats 2000000 in
theorem ix_string (g : Nat) (lb : Array Value) (eg : ∀ args w, (callFunc g args).run Tryz.prog w = .ok (.enter g args) w) (w0 w : World) (A : Option Addr) (c : Nat) (xs : List ByteArray) (hC : Kd.C Kd.string w0 A xs.length xs) (p : Nat → Bool) (Inv Fin : Nat → World → Prop) (hB : ∀ i W, Inv i W → Below w0.heap.size w0 W)
   (hstep : ∀ i W, i < xs.length → Inv i W → Calls Tryz.prog g (#[(.string (xs.getD i (⟨#[]⟩ : ByteArray)))] ++ lb) W fun e W' => e = .returned (.bool (p i)) ∧ (p i = true → Fin i W') ∧ (p i = false → Inv (i + 1) W')) (h0 : Inv 0 w) :
   Calls Tryz.prog 94 #[.slice A xs.length c, .func (.func g) #[] lb] w (IxPost xs.length p Inv Fin) := by
 have hmax : xs.length ≤ 9223372036854775807 := hC.2.1
 have H0 := Aside0.mk h0
 have HC := Aside0.mk hC
 have HS := Aside0.mk hstep
 have HBB := Aside0.mk hB
 clear h0 hC hstep hB
 go_enter Tryz.func94, Tryz.ntmps94
 go_wp2
 go_loopg [5, 8] xs.length (fun gg _ s8 wr => ∃ kk : Nat, kk ≤ xs.length ∧ xs.length - kk ≤ gg ∧ s8 = .int .i64 kk ∧ Aside0 (Inv kk wr) ∧ Aside0 (∀ j, j < kk → p j = false))
 case atStart => exact ⟨0, Nat.zero_le _, by omega, rfl, H0, ⟨fun j hj => absurd hj (Nat.not_lt_zero _)⟩⟩
 case round =>
   obtain ⟨kk, hkk, hg, rfl, I, N⟩ := hrel
   have HB := Aside0.mk (HBB.out kk wr I.out)
   by_cases hlt : kk < xs.length
   · have hltz : (kk : Int) < (xs.length : Int) := by omega
     have hC := HC.out
     have hstep := HS.out
     obtain ⟨ad, cs, rfl, _, hK, hcc⟩ := Kd.C_get hC (⟨#[]⟩ : ByteArray) (kk : Int) (by omega) (by omega)
     obtain rfl := hK
     have hx0 := (HB.out.cell (World.block_lt_of_cell? w0 _ (hcc 0 _ rfl))).trans (hcc 0 _ rfl)
     simp only [show Kd.string.sz = 1 from rfl, Nat.mul_one, Nat.add_zero, Int.toNat_natCast] at hx0
     have hcall := hstep kk wr (by omega) I.out
     clear hcc hstep hC
     try simp only [Int.toNat_natCast] at hcall
     try simp only [Int.toNat_natCast] at hx0
     generalize xs.getD kk (⟨#[]⟩ : ByteArray) = y at hcall hx0
     cases hq : p kk with
     | true =>
       rw [hq] at hcall
       have Hq := Aside0.mk hq
       clear hq
       go_wp2_with (go_at_fn g; refine hcall.mono ?_; rintro e w' ⟨rfl, hf, _⟩; have HF := Aside0.mk (hf rfl); clear hf)
       go_ret
       exact .inr ⟨kk, hlt, rfl, N.out, Hq.out, HF.out⟩
     | false =>
       rw [hq] at hcall
       have Hq := Aside0.mk hq
       clear hq
       go_wp2_with (go_at_fn g; refine hcall.mono ?_; rintro e w' ⟨rfl, _, hf⟩; have HF := Aside0.mk (hf rfl); clear hf)
       go_roundg (xs.length - (kk + 1))
       case measure => omega
       case rel =>
         refine ⟨kk + 1, by omega, by omega, by go_num, HF, ⟨fun j hj => ?_⟩⟩
         by_cases e : j = kk
         · subst e; exact Hq.out
         · exact N.out j (by omega)
   · have hltz : ¬ (kk : Int) < (xs.length : Int) := by omega
     obtain rfl : kk = xs.length := by omega
     go_wp2
     go_ret
     exact .inl ⟨rfl, N.out, I.out⟩
theorem ct_string (g : Nat) (lb : Array Value) (eg : ∀ args w, (callFunc g args).run Tryz.prog w = .ok (.enter g args) w) (w0 w : World) (A : Option Addr) (c : Nat) (xs : List ByteArray) (hC : Kd.C Kd.string w0 A xs.length xs) (p : Nat → Bool) (Inv Fin : Nat → World → Prop) (hB : ∀ i W, Inv i W → Below w0.heap.size w0 W)
   (hstep : ∀ i W, i < xs.length → Inv i W → Calls Tryz.prog g (#[(.string (xs.getD i (⟨#[]⟩ : ByteArray)))] ++ lb) W fun e W' => e = .returned (.bool (p i)) ∧ (p i = true → Fin i W') ∧ (p i = false → Inv (i + 1) W')) (h0 : Inv 0 w) :
   Calls Tryz.prog 67 #[.slice A xs.length c, .func (.func g) #[] lb] w (CtPost xs.length p Inv Fin) := by
 have hix := ix_string g lb eg w0 w A c xs hC p Inv Fin hB hstep h0
 have H0 := Aside0.mk hix
 clear h0 hC hstep hB eg hix
 go_enter Tryz.func67, Tryz.ntmps67
 go_wp2_with fail
 refine H0.out.mono ?_
 clear H0
 intro e w' h
 rcases h with ⟨rfl, h1, h2⟩ | ⟨i, hi, rfl, h0, h1, h2⟩
 · have HF : CtPost xs.length p Inv Fin (.returned (.bool false)) w' := .inl ⟨rfl, h1, h2⟩
   have HF := Aside0.mk HF
   clear h1 h2
   go_wp2
   go_ret
   exact HF.out
 · have HF : CtPost xs.length p Inv Fin (.returned (.bool true)) w' := .inr ⟨i, hi, rfl, h0, h1, h2⟩
   have HF := Aside0.mk HF
   clear h1 h2 h0
   have hd : decide ((i : Int) ≥ 0) = true := decide_eq_true (by omega)
   go_wp2
   go_ret
   exact HF.out
end Go.Proofs.YtggfnbnochmkdaaGreat
