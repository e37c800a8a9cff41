/- slices.IndexFunc and slices.ContainsFunc at the program's element types, whatever the function value does: a relation between the rounds. -/
import Derived.Deep.LoopGhost
import Derived.Test.YtcekbkbhaceilaaBase
import Derived.Test.YtcekbkbhaceilaaPScopex0
namespace Go.Proofs.Ytcekbkbhaceilaa
open Go Go.RowKit Go.Lib Go.Proofs.YtcekbkbhaceilaaW.PrintWords Go.Proofs.Ytcekbkbhaceilaa.PScope
set_option maxRecDepth 100000
set_option linter.unusedSimpArgs false
set_option linter.unusedVariables false

/-- What IndexFunc ends with. -/
def IxPost (n : Nat) (p : Nat → Bool) (Inv Fin : Nat → World → Prop) (e : Ending) (w' : World) : Prop :=
  (e = .returned (.int .i64 (-1)) ∧ (∀ i, i < n → p i = false) ∧ Inv n w') ∨ ∃ i : Nat, i < n ∧ e = .returned (.int .i64 (i : Int)) ∧ (∀ j, j < i → p j = false) ∧ p i = true ∧ Fin i w'
/-- What ContainsFunc ends with. -/
def CtPost (n : Nat) (p : Nat → Bool) (Inv Fin : Nat → World → Prop) (e : Ending) (w' : World) : Prop :=
  (e = .returned (.bool false) ∧ (∀ i, i < n → p i = false) ∧ Inv n w') ∨ ∃ i : Nat, i < n ∧ e = .returned (.bool true) ∧ (∀ j, j < i → p j = false) ∧ p i = true ∧ Fin i w'
theorem any_getD_false {α : Type} (xs : List α) (q : α → Bool) (z : α) (h : ∀ i, i < xs.length → q (xs.getD i z) = false) : xs.any q = false := by
  rw [List.any_eq_false]
  intro x hx
  obtain ⟨i, hi⟩ := List.getElem?_of_mem hx
  have hl := (List.getElem?_eq_some_iff.1 hi).1
  have := h i hl
  rw [List.getD_eq_getElem?_getD, hi] at this
  simpa using this
theorem any_getD_true {α : Type} (xs : List α) (q : α → Bool) (z : α) (i : Nat) (hi : i < xs.length) (h : q (xs.getD i z) = true) : xs.any q = true := by
  rw [List.any_eq_true]
  refine ⟨xs.getD i z, ?_, h⟩
  rw [List.getD_eq_getElem?_getD, List.getElem?_eq_getElem hi]
  exact List.getElem_mem hi
/-- .. of a function that only looks. -/
theorem CtPost.any {α : Type} {xs : List α} {q : α → Bool} {z : α} {I : World → Prop} {e : Ending} {w' : World} (h : CtPost xs.length (fun i => q (xs.getD i z)) (fun _ W => I W) (fun _ W => I W) e w') :
    e = .returned (.bool (xs.any q)) ∧ I w' := by
  rcases h with ⟨rfl, h1, h2⟩ | ⟨i, hi, rfl, _, h1, h2⟩
  · rw [any_getD_false xs q z h1]; exact ⟨rfl, h2⟩
  · rw [any_getD_true xs q z i hi h1]; exact ⟨rfl, h2⟩

/-! ### Node -/
set_option maxHeartbeats 2000000 in
theorem ix_Node (g : Nat) (lb : Array Value) (eg : ∀ args w, (callFunc g args).run Try.prog w = .ok (.enter g args) w) (w0 w : World) (A : Option Addr) (c : Nat) (xs : List S36) (hC : Kd.C k36 w0 A xs.length xs) (p : Nat → Bool) (Inv Fin : Nat → World → Prop) (hB : ∀ i W, Inv i W → Below w0.heap.size w0 W)
    (hstep : ∀ i W cs, i < xs.length → Inv i W → k36.K w0 (xs.getD i z36) cs → Calls Try.prog g (#[(.agg cs.toArray)] ++ lb) W fun e W' => e = .returned (.bool (p i)) ∧ (p i = true → Fin i W') ∧ (p i = false → Inv (i + 1) W')) (h0 : Inv 0 w) :
    Calls Try.prog 24 #[.slice A xs.length c, .func (.func g) #[] lb] w (IxPost xs.length p Inv Fin) := by
  have hmax : xs.length ≤ 9223372036854775807 := hC.2.1
  have H0 := Aside0.mk h0
  have HC := Aside0.mk hC
  have HS := Aside0.mk hstep
  have HBB := Aside0.mk hB
  clear h0 hC hstep hB
  go_enter Try.func24, Try.ntmps24
  go_wp2
  go_loopg [5, 8] xs.length (fun gg _ s8 wr => ∃ kk : Nat, kk ≤ xs.length ∧ xs.length - kk ≤ gg ∧ s8 = .int .i64 kk ∧ Aside0 (Inv kk wr) ∧ Aside0 (∀ j, j < kk → p j = false))
  case atStart => exact ⟨0, Nat.zero_le _, by omega, rfl, H0, ⟨fun j hj => absurd hj (Nat.not_lt_zero _)⟩⟩
  case round =>
    obtain ⟨kk, hkk, hg, rfl, I, N⟩ := hrel
    have HB := Aside0.mk (HBB.out kk wr I.out)
    by_cases hlt : kk < xs.length
    · have hltz : (kk : Int) < (xs.length : Int) := by omega
      have hC := HC.out
      have hstep := HS.out
      obtain ⟨ad, cs, rfl, _, hK, hcc⟩ := Kd.C_get hC z36 (kk : Int) (by omega) (by omega)
      have hK' := hK
      obtain ⟨A1, c1, A2, c2, A3, c3, A4, c4, rfl, _⟩ := k36_open hK'
      have hx0 := (HB.out.cell (World.block_lt_of_cell? w0 _ (hcc 0 _ rfl))).trans (hcc 0 _ rfl)
      have hx1 := (HB.out.cell (World.block_lt_of_cell? w0 _ (hcc 1 _ rfl))).trans (hcc 1 _ rfl)
      have hx2 := (HB.out.cell (World.block_lt_of_cell? w0 _ (hcc 2 _ rfl))).trans (hcc 2 _ rfl)
      have hx3 := (HB.out.cell (World.block_lt_of_cell? w0 _ (hcc 3 _ rfl))).trans (hcc 3 _ rfl)
      have hx4 := (HB.out.cell (World.block_lt_of_cell? w0 _ (hcc 4 _ rfl))).trans (hcc 4 _ rfl)
      rw [show (k36).sz = 5 from rfl, Nat.add_zero, Int.toNat_natCast] at hx0
      rw [show (k36).sz = 5 from rfl, Int.toNat_natCast, add_field _ _ 1 (by omega)] at hx1
      rw [show (k36).sz = 5 from rfl, Int.toNat_natCast, add_field _ _ 2 (by omega)] at hx2
      rw [show (k36).sz = 5 from rfl, Int.toNat_natCast, add_field _ _ 3 (by omega)] at hx3
      rw [show (k36).sz = 5 from rfl, Int.toNat_natCast, add_field _ _ 4 (by omega)] at hx4
      have hcall := hstep kk wr _ (by omega) I.out hK
      clear hcc hstep hC
      try simp only [Int.toNat_natCast] at hcall
      try simp only [Int.toNat_natCast] at hx0 hx1 hx2 hx3 hx4
      generalize xs.getD kk z36 = y at hcall hx0 hx1 hx2 hx3 hx4 hK
      clear hK
      cases hq : p kk with
      | true =>
        rw [hq] at hcall
        have Hq := Aside0.mk hq
        clear hq
        go_wp2_with (go_at_fn g; refine hcall.mono ?_; rintro e w' ⟨rfl, hf, _⟩; have HF := Aside0.mk (hf rfl); clear hf)
        go_ret
        exact .inr ⟨kk, hlt, rfl, N.out, Hq.out, HF.out⟩
      | false =>
        rw [hq] at hcall
        have Hq := Aside0.mk hq
        clear hq
        go_wp2_with (go_at_fn g; refine hcall.mono ?_; rintro e w' ⟨rfl, _, hf⟩; have HF := Aside0.mk (hf rfl); clear hf)
        go_roundg (xs.length - (kk + 1))
        case measure => omega
        case rel =>
          refine ⟨kk + 1, by omega, by omega, by go_num, HF, ⟨fun j hj => ?_⟩⟩
          by_cases e : j = kk
          · subst e; exact Hq.out
          · exact N.out j (by omega)
    · have hltz : ¬ (kk : Int) < (xs.length : Int) := by omega
      obtain rfl : kk = xs.length := by omega
      go_wp2
      go_ret
      exact .inl ⟨rfl, N.out, I.out⟩
theorem ct_Node (g : Nat) (lb : Array Value) (eg : ∀ args w, (callFunc g args).run Try.prog w = .ok (.enter g args) w) (w0 w : World) (A : Option Addr) (c : Nat) (xs : List S36) (hC : Kd.C k36 w0 A xs.length xs) (p : Nat → Bool) (Inv Fin : Nat → World → Prop) (hB : ∀ i W, Inv i W → Below w0.heap.size w0 W)
    (hstep : ∀ i W cs, i < xs.length → Inv i W → k36.K w0 (xs.getD i z36) cs → Calls Try.prog g (#[(.agg cs.toArray)] ++ lb) W fun e W' => e = .returned (.bool (p i)) ∧ (p i = true → Fin i W') ∧ (p i = false → Inv (i + 1) W')) (h0 : Inv 0 w) :
    Calls Try.prog 41 #[.slice A xs.length c, .func (.func g) #[] lb] w (CtPost xs.length p Inv Fin) := by
  have hix := ix_Node g lb eg w0 w A c xs hC p Inv Fin hB hstep h0
  have H0 := Aside0.mk hix
  clear h0 hC hstep hB eg hix
  go_enter Try.func41, Try.ntmps41
  go_wp2_with fail
  refine H0.out.mono ?_
  clear H0
  intro e w' h
  rcases h with ⟨rfl, h1, h2⟩ | ⟨i, hi, rfl, h0, h1, h2⟩
  · have HF : CtPost xs.length p Inv Fin (.returned (.bool false)) w' := .inl ⟨rfl, h1, h2⟩
    have HF := Aside0.mk HF
    clear h1 h2
    go_wp2
    go_ret
    exact HF.out
  · have HF : CtPost xs.length p Inv Fin (.returned (.bool true)) w' := .inr ⟨i, hi, rfl, h0, h1, h2⟩
    have HF := Aside0.mk HF
    clear h1 h2 h0
    have hd : decide ((i : Int) ≥ 0) = true := decide_eq_true (by omega)
    go_wp2
    go_ret
    exact HF.out

/-! ### State -/
set_option maxHeartbeats 2000000 in
theorem ix_State (g : Nat) (lb : Array Value) (eg : ∀ args w, (callFunc g args).run Try.prog w = .ok (.enter g args) w) (w0 w : World) (A : Option Addr) (c : Nat) (xs : List S90) (hC : Kd.C k90 w0 A xs.length xs) (p : Nat → Bool) (Inv Fin : Nat → World → Prop) (hB : ∀ i W, Inv i W → Below w0.heap.size w0 W)
    (hstep : ∀ i W cs, i < xs.length → Inv i W → k90.K w0 (xs.getD i z90) cs → Calls Try.prog g (#[(.agg cs.toArray)] ++ lb) W fun e W' => e = .returned (.bool (p i)) ∧ (p i = true → Fin i W') ∧ (p i = false → Inv (i + 1) W')) (h0 : Inv 0 w) :
    Calls Try.prog 60 #[.slice A xs.length c, .func (.func g) #[] lb] w (IxPost xs.length p Inv Fin) := by
  have hmax : xs.length ≤ 9223372036854775807 := hC.2.1
  have H0 := Aside0.mk h0
  have HC := Aside0.mk hC
  have HS := Aside0.mk hstep
  have HBB := Aside0.mk hB
  clear h0 hC hstep hB
  go_enter Try.func60, Try.ntmps60
  go_wp2
  go_loopg [5, 8] xs.length (fun gg _ s8 wr => ∃ kk : Nat, kk ≤ xs.length ∧ xs.length - kk ≤ gg ∧ s8 = .int .i64 kk ∧ Aside0 (Inv kk wr) ∧ Aside0 (∀ j, j < kk → p j = false))
  case atStart => exact ⟨0, Nat.zero_le _, by omega, rfl, H0, ⟨fun j hj => absurd hj (Nat.not_lt_zero _)⟩⟩
  case round =>
    obtain ⟨kk, hkk, hg, rfl, I, N⟩ := hrel
    have HB := Aside0.mk (HBB.out kk wr I.out)
    by_cases hlt : kk < xs.length
    · have hltz : (kk : Int) < (xs.length : Int) := by omega
      have hC := HC.out
      have hstep := HS.out
      obtain ⟨ad, cs, rfl, _, hK, hcc⟩ := Kd.C_get hC z90 (kk : Int) (by omega) (by omega)
      have hK' := hK
      obtain ⟨A1, c1, A2, c2, rfl, _⟩ := k90_open hK'
      have hx0 := (HB.out.cell (World.block_lt_of_cell? w0 _ (hcc 0 _ rfl))).trans (hcc 0 _ rfl)
      have hx1 := (HB.out.cell (World.block_lt_of_cell? w0 _ (hcc 1 _ rfl))).trans (hcc 1 _ rfl)
      have hx2 := (HB.out.cell (World.block_lt_of_cell? w0 _ (hcc 2 _ rfl))).trans (hcc 2 _ rfl)
      rw [show (k90).sz = 3 from rfl, Nat.add_zero, Int.toNat_natCast] at hx0
      rw [show (k90).sz = 3 from rfl, Int.toNat_natCast, add_field _ _ 1 (by omega)] at hx1
      rw [show (k90).sz = 3 from rfl, Int.toNat_natCast, add_field _ _ 2 (by omega)] at hx2
      have hcall := hstep kk wr _ (by omega) I.out hK
      clear hcc hstep hC
      try simp only [Int.toNat_natCast] at hcall
      try simp only [Int.toNat_natCast] at hx0 hx1 hx2
      generalize xs.getD kk z90 = y at hcall hx0 hx1 hx2 hK
      clear hK
      cases hq : p kk with
      | true =>
        rw [hq] at hcall
        have Hq := Aside0.mk hq
        clear hq
        go_wp2_with (go_at_fn g; refine hcall.mono ?_; rintro e w' ⟨rfl, hf, _⟩; have HF := Aside0.mk (hf rfl); clear hf)
        go_ret
        exact .inr ⟨kk, hlt, rfl, N.out, Hq.out, HF.out⟩
      | false =>
        rw [hq] at hcall
        have Hq := Aside0.mk hq
        clear hq
        go_wp2_with (go_at_fn g; refine hcall.mono ?_; rintro e w' ⟨rfl, _, hf⟩; have HF := Aside0.mk (hf rfl); clear hf)
        go_roundg (xs.length - (kk + 1))
        case measure => omega
        case rel =>
          refine ⟨kk + 1, by omega, by omega, by go_num, HF, ⟨fun j hj => ?_⟩⟩
          by_cases e : j = kk
          · subst e; exact Hq.out
          · exact N.out j (by omega)
    · have hltz : ¬ (kk : Int) < (xs.length : Int) := by omega
      obtain rfl : kk = xs.length := by omega
      go_wp2
      go_ret
      exact .inl ⟨rfl, N.out, I.out⟩
theorem ct_State (g : Nat) (lb : Array Value) (eg : ∀ args w, (callFunc g args).run Try.prog w = .ok (.enter g args) w) (w0 w : World) (A : Option Addr) (c : Nat) (xs : List S90) (hC : Kd.C k90 w0 A xs.length xs) (p : Nat → Bool) (Inv Fin : Nat → World → Prop) (hB : ∀ i W, Inv i W → Below w0.heap.size w0 W)
    (hstep : ∀ i W cs, i < xs.length → Inv i W → k90.K w0 (xs.getD i z90) cs → Calls Try.prog g (#[(.agg cs.toArray)] ++ lb) W fun e W' => e = .returned (.bool (p i)) ∧ (p i = true → Fin i W') ∧ (p i = false → Inv (i + 1) W')) (h0 : Inv 0 w) :
    Calls Try.prog 46 #[.slice A xs.length c, .func (.func g) #[] lb] w (CtPost xs.length p Inv Fin) := by
  have hix := ix_State g lb eg w0 w A c xs hC p Inv Fin hB hstep h0
  have H0 := Aside0.mk hix
  clear h0 hC hstep hB eg hix
  go_enter Try.func46, Try.ntmps46
  go_wp2_with fail
  refine H0.out.mono ?_
  clear H0
  intro e w' h
  rcases h with ⟨rfl, h1, h2⟩ | ⟨i, hi, rfl, h0, h1, h2⟩
  · have HF : CtPost xs.length p Inv Fin (.returned (.bool false)) w' := .inl ⟨rfl, h1, h2⟩
    have HF := Aside0.mk HF
    clear h1 h2
    go_wp2
    go_ret
    exact HF.out
  · have HF : CtPost xs.length p Inv Fin (.returned (.bool true)) w' := .inr ⟨i, hi, rfl, h0, h1, h2⟩
    have HF := Aside0.mk HF
    clear h1 h2 h0
    have hd : decide ((i : Int) ≥ 0) = true := decide_eq_true (by omega)
    go_wp2
    go_ret
    exact HF.out

/-! ### Item -/
set_option maxHeartbeats 2000000 in
theorem ix_Item (g : Nat) (lb : Array Value) (eg : ∀ args w, (callFunc g args).run Try.prog w = .ok (.enter g args) w) (w0 w : World) (A : Option Addr) (c : Nat) (xs : List S46) (hC : Kd.C k46 w0 A xs.length xs) (p : Nat → Bool) (Inv Fin : Nat → World → Prop) (hB : ∀ i W, Inv i W → Below w0.heap.size w0 W)
    (hstep : ∀ i W cs, i < xs.length → Inv i W → k46.K w0 (xs.getD i z46) cs → Calls Try.prog g (#[(.agg cs.toArray)] ++ lb) W fun e W' => e = .returned (.bool (p i)) ∧ (p i = true → Fin i W') ∧ (p i = false → Inv (i + 1) W')) (h0 : Inv 0 w) :
    Calls Try.prog 71 #[.slice A xs.length c, .func (.func g) #[] lb] w (IxPost xs.length p Inv Fin) := by
  have hmax : xs.length ≤ 9223372036854775807 := hC.2.1
  have H0 := Aside0.mk h0
  have HC := Aside0.mk hC
  have HS := Aside0.mk hstep
  have HBB := Aside0.mk hB
  clear h0 hC hstep hB
  go_enter Try.func71, Try.ntmps71
  go_wp2
  go_loopg [5, 8] xs.length (fun gg _ s8 wr => ∃ kk : Nat, kk ≤ xs.length ∧ xs.length - kk ≤ gg ∧ s8 = .int .i64 kk ∧ Aside0 (Inv kk wr) ∧ Aside0 (∀ j, j < kk → p j = false))
  case atStart => exact ⟨0, Nat.zero_le _, by omega, rfl, H0, ⟨fun j hj => absurd hj (Nat.not_lt_zero _)⟩⟩
  case round =>
    obtain ⟨kk, hkk, hg, rfl, I, N⟩ := hrel
    have HB := Aside0.mk (HBB.out kk wr I.out)
    by_cases hlt : kk < xs.length
    · have hltz : (kk : Int) < (xs.length : Int) := by omega
      have hC := HC.out
      have hstep := HS.out
      obtain ⟨ad, cs, rfl, _, hK, hcc⟩ := Kd.C_get hC z46 (kk : Int) (by omega) (by omega)
      have hK' := hK
      obtain ⟨A0, c0, A4, c4, A5, c5, A6, c6, rfl, _⟩ := k46_open hK'
      have hx0 := (HB.out.cell (World.block_lt_of_cell? w0 _ (hcc 0 _ rfl))).trans (hcc 0 _ rfl)
      have hx1 := (HB.out.cell (World.block_lt_of_cell? w0 _ (hcc 1 _ rfl))).trans (hcc 1 _ rfl)
      have hx2 := (HB.out.cell (World.block_lt_of_cell? w0 _ (hcc 2 _ rfl))).trans (hcc 2 _ rfl)
      have hx3 := (HB.out.cell (World.block_lt_of_cell? w0 _ (hcc 3 _ rfl))).trans (hcc 3 _ rfl)
      have hx4 := (HB.out.cell (World.block_lt_of_cell? w0 _ (hcc 4 _ rfl))).trans (hcc 4 _ rfl)
      have hx5 := (HB.out.cell (World.block_lt_of_cell? w0 _ (hcc 5 _ rfl))).trans (hcc 5 _ rfl)
      have hx6 := (HB.out.cell (World.block_lt_of_cell? w0 _ (hcc 6 _ rfl))).trans (hcc 6 _ rfl)
      rw [show (k46).sz = 7 from rfl, Nat.add_zero, Int.toNat_natCast] at hx0
      rw [show (k46).sz = 7 from rfl, Int.toNat_natCast, add_field _ _ 1 (by omega)] at hx1
      rw [show (k46).sz = 7 from rfl, Int.toNat_natCast, add_field _ _ 2 (by omega)] at hx2
      rw [show (k46).sz = 7 from rfl, Int.toNat_natCast, add_field _ _ 3 (by omega)] at hx3
      rw [show (k46).sz = 7 from rfl, Int.toNat_natCast, add_field _ _ 4 (by omega)] at hx4
      rw [show (k46).sz = 7 from rfl, Int.toNat_natCast, add_field _ _ 5 (by omega)] at hx5
      rw [show (k46).sz = 7 from rfl, Int.toNat_natCast, add_field _ _ 6 (by omega)] at hx6
      have hcall := hstep kk wr _ (by omega) I.out hK
      clear hcc hstep hC
      try simp only [Int.toNat_natCast] at hcall
      try simp only [Int.toNat_natCast] at hx0 hx1 hx2 hx3 hx4 hx5 hx6
      generalize xs.getD kk z46 = y at hcall hx0 hx1 hx2 hx3 hx4 hx5 hx6 hK
      clear hK
      cases hq : p kk with
      | true =>
        rw [hq] at hcall
        have Hq := Aside0.mk hq
        clear hq
        go_wp2_with (go_at_fn g; refine hcall.mono ?_; rintro e w' ⟨rfl, hf, _⟩; have HF := Aside0.mk (hf rfl); clear hf)
        go_ret
        exact .inr ⟨kk, hlt, rfl, N.out, Hq.out, HF.out⟩
      | false =>
        rw [hq] at hcall
        have Hq := Aside0.mk hq
        clear hq
        go_wp2_with (go_at_fn g; refine hcall.mono ?_; rintro e w' ⟨rfl, _, hf⟩; have HF := Aside0.mk (hf rfl); clear hf)
        go_roundg (xs.length - (kk + 1))
        case measure => omega
        case rel =>
          refine ⟨kk + 1, by omega, by omega, by go_num, HF, ⟨fun j hj => ?_⟩⟩
          by_cases e : j = kk
          · subst e; exact Hq.out
          · exact N.out j (by omega)
    · have hltz : ¬ (kk : Int) < (xs.length : Int) := by omega
      obtain rfl : kk = xs.length := by omega
      go_wp2
      go_ret
      exact .inl ⟨rfl, N.out, I.out⟩
theorem ct_Item (g : Nat) (lb : Array Value) (eg : ∀ args w, (callFunc g args).run Try.prog w = .ok (.enter g args) w) (w0 w : World) (A : Option Addr) (c : Nat) (xs : List S46) (hC : Kd.C k46 w0 A xs.length xs) (p : Nat → Bool) (Inv Fin : Nat → World → Prop) (hB : ∀ i W, Inv i W → Below w0.heap.size w0 W)
    (hstep : ∀ i W cs, i < xs.length → Inv i W → k46.K w0 (xs.getD i z46) cs → Calls Try.prog g (#[(.agg cs.toArray)] ++ lb) W fun e W' => e = .returned (.bool (p i)) ∧ (p i = true → Fin i W') ∧ (p i = false → Inv (i + 1) W')) (h0 : Inv 0 w) :
    Calls Try.prog 55 #[.slice A xs.length c, .func (.func g) #[] lb] w (CtPost xs.length p Inv Fin) := by
  have hix := ix_Item g lb eg w0 w A c xs hC p Inv Fin hB hstep h0
  have H0 := Aside0.mk hix
  clear h0 hC hstep hB eg hix
  go_enter Try.func55, Try.ntmps55
  go_wp2_with fail
  refine H0.out.mono ?_
  clear H0
  intro e w' h
  rcases h with ⟨rfl, h1, h2⟩ | ⟨i, hi, rfl, h0, h1, h2⟩
  · have HF : CtPost xs.length p Inv Fin (.returned (.bool false)) w' := .inl ⟨rfl, h1, h2⟩
    have HF := Aside0.mk HF
    clear h1 h2
    go_wp2
    go_ret
    exact HF.out
  · have HF : CtPost xs.length p Inv Fin (.returned (.bool true)) w' := .inr ⟨i, hi, rfl, h0, h1, h2⟩
    have HF := Aside0.mk HF
    clear h1 h2 h0
    have hd : decide ((i : Int) ≥ 0) = true := decide_eq_true (by omega)
    go_wp2
    go_ret
    exact HF.out

/-! ### Enum -/
set_option maxHeartbeats 2000000 in
theorem ix_Enum (g : Nat) (lb : Array Value) (eg : ∀ args w, (callFunc g args).run Try.prog w = .ok (.enter g args) w) (w0 w : World) (A : Option Addr) (c : Nat) (xs : List S72) (hC : Kd.C k72 w0 A xs.length xs) (p : Nat → Bool) (Inv Fin : Nat → World → Prop) (hB : ∀ i W, Inv i W → Below w0.heap.size w0 W)
    (hstep : ∀ i W cs, i < xs.length → Inv i W → k72.K w0 (xs.getD i z72) cs → Calls Try.prog g (#[(.agg cs.toArray)] ++ lb) W fun e W' => e = .returned (.bool (p i)) ∧ (p i = true → Fin i W') ∧ (p i = false → Inv (i + 1) W')) (h0 : Inv 0 w) :
    Calls Try.prog 86 #[.slice A xs.length c, .func (.func g) #[] lb] w (IxPost xs.length p Inv Fin) := by
  have hmax : xs.length ≤ 9223372036854775807 := hC.2.1
  have H0 := Aside0.mk h0
  have HC := Aside0.mk hC
  have HS := Aside0.mk hstep
  have HBB := Aside0.mk hB
  clear h0 hC hstep hB
  go_enter Try.func86, Try.ntmps86
  go_wp2
  go_loopg [5, 8] xs.length (fun gg _ s8 wr => ∃ kk : Nat, kk ≤ xs.length ∧ xs.length - kk ≤ gg ∧ s8 = .int .i64 kk ∧ Aside0 (Inv kk wr) ∧ Aside0 (∀ j, j < kk → p j = false))
  case atStart => exact ⟨0, Nat.zero_le _, by omega, rfl, H0, ⟨fun j hj => absurd hj (Nat.not_lt_zero _)⟩⟩
  case round =>
    obtain ⟨kk, hkk, hg, rfl, I, N⟩ := hrel
    have HB := Aside0.mk (HBB.out kk wr I.out)
    by_cases hlt : kk < xs.length
    · have hltz : (kk : Int) < (xs.length : Int) := by omega
      have hC := HC.out
      have hstep := HS.out
      obtain ⟨ad, cs, rfl, _, hK, hcc⟩ := Kd.C_get hC z72 (kk : Int) (by omega) (by omega)
      have hK' := hK
      obtain ⟨A1, c1, rfl, _⟩ := k72_open hK'
      have hx0 := (HB.out.cell (World.block_lt_of_cell? w0 _ (hcc 0 _ rfl))).trans (hcc 0 _ rfl)
      have hx1 := (HB.out.cell (World.block_lt_of_cell? w0 _ (hcc 1 _ rfl))).trans (hcc 1 _ rfl)
      rw [show (k72).sz = 2 from rfl, Nat.add_zero, Int.toNat_natCast] at hx0
      rw [show (k72).sz = 2 from rfl, Int.toNat_natCast, add_field _ _ 1 (by omega)] at hx1
      have hcall := hstep kk wr _ (by omega) I.out hK
      clear hcc hstep hC
      try simp only [Int.toNat_natCast] at hcall
      try simp only [Int.toNat_natCast] at hx0 hx1
      generalize xs.getD kk z72 = y at hcall hx0 hx1 hK
      clear hK
      cases hq : p kk with
      | true =>
        rw [hq] at hcall
        have Hq := Aside0.mk hq
        clear hq
        go_wp2_with (go_at_fn g; refine hcall.mono ?_; rintro e w' ⟨rfl, hf, _⟩; have HF := Aside0.mk (hf rfl); clear hf)
        go_ret
        exact .inr ⟨kk, hlt, rfl, N.out, Hq.out, HF.out⟩
      | false =>
        rw [hq] at hcall
        have Hq := Aside0.mk hq
        clear hq
        go_wp2_with (go_at_fn g; refine hcall.mono ?_; rintro e w' ⟨rfl, _, hf⟩; have HF := Aside0.mk (hf rfl); clear hf)
        go_roundg (xs.length - (kk + 1))
        case measure => omega
        case rel =>
          refine ⟨kk + 1, by omega, by omega, by go_num, HF, ⟨fun j hj => ?_⟩⟩
          by_cases e : j = kk
          · subst e; exact Hq.out
          · exact N.out j (by omega)
    · have hltz : ¬ (kk : Int) < (xs.length : Int) := by omega
      obtain rfl : kk = xs.length := by omega
      go_wp2
      go_ret
      exact .inl ⟨rfl, N.out, I.out⟩
theorem ct_Enum (g : Nat) (lb : Array Value) (eg : ∀ args w, (callFunc g args).run Try.prog w = .ok (.enter g args) w) (w0 w : World) (A : Option Addr) (c : Nat) (xs : List S72) (hC : Kd.C k72 w0 A xs.length xs) (p : Nat → Bool) (Inv Fin : Nat → World → Prop) (hB : ∀ i W, Inv i W → Below w0.heap.size w0 W)
    (hstep : ∀ i W cs, i < xs.length → Inv i W → k72.K w0 (xs.getD i z72) cs → Calls Try.prog g (#[(.agg cs.toArray)] ++ lb) W fun e W' => e = .returned (.bool (p i)) ∧ (p i = true → Fin i W') ∧ (p i = false → Inv (i + 1) W')) (h0 : Inv 0 w) :
    Calls Try.prog 77 #[.slice A xs.length c, .func (.func g) #[] lb] w (CtPost xs.length p Inv Fin) := by
  have hix := ix_Enum g lb eg w0 w A c xs hC p Inv Fin hB hstep h0
  have H0 := Aside0.mk hix
  clear h0 hC hstep hB eg hix
  go_enter Try.func77, Try.ntmps77
  go_wp2_with fail
  refine H0.out.mono ?_
  clear H0
  intro e w' h
  rcases h with ⟨rfl, h1, h2⟩ | ⟨i, hi, rfl, h0, h1, h2⟩
  · have HF : CtPost xs.length p Inv Fin (.returned (.bool false)) w' := .inl ⟨rfl, h1, h2⟩
    have HF := Aside0.mk HF
    clear h1 h2
    go_wp2
    go_ret
    exact HF.out
  · have HF : CtPost xs.length p Inv Fin (.returned (.bool true)) w' := .inr ⟨i, hi, rfl, h0, h1, h2⟩
    have HF := Aside0.mk HF
    clear h1 h2 h0
    have hd : decide ((i : Int) ≥ 0) = true := decide_eq_true (by omega)
    go_wp2
    go_ret
    exact HF.out

/-! ### Expr -/
set_option maxHeartbeats 2000000 in
theorem ix_Expr (g : Nat) (lb : Array Value) (eg : ∀ args w, (callFunc g args).run Try.prog w = .ok (.enter g args) w) (w0 w : World) (A : Option Addr) (c : Nat) (xs : List S41) (hC : Kd.C k41 w0 A xs.length xs) (p : Nat → Bool) (Inv Fin : Nat → World → Prop) (hB : ∀ i W, Inv i W → Below w0.heap.size w0 W)
    (hstep : ∀ i W cs, i < xs.length → Inv i W → k41.K w0 (xs.getD i z41) cs → Calls Try.prog g (#[(.agg cs.toArray)] ++ lb) W fun e W' => e = .returned (.bool (p i)) ∧ (p i = true → Fin i W') ∧ (p i = false → Inv (i + 1) W')) (h0 : Inv 0 w) :
    Calls Try.prog 96 #[.slice A xs.length c, .func (.func g) #[] lb] w (IxPost xs.length p Inv Fin) := by
  have hmax : xs.length ≤ 9223372036854775807 := hC.2.1
  have H0 := Aside0.mk h0
  have HC := Aside0.mk hC
  have HS := Aside0.mk hstep
  have HBB := Aside0.mk hB
  clear h0 hC hstep hB
  go_enter Try.func96, Try.ntmps96
  go_wp2
  go_loopg [5, 8] xs.length (fun gg _ s8 wr => ∃ kk : Nat, kk ≤ xs.length ∧ xs.length - kk ≤ gg ∧ s8 = .int .i64 kk ∧ Aside0 (Inv kk wr) ∧ Aside0 (∀ j, j < kk → p j = false))
  case atStart => exact ⟨0, Nat.zero_le _, by omega, rfl, H0, ⟨fun j hj => absurd hj (Nat.not_lt_zero _)⟩⟩
  case round =>
    obtain ⟨kk, hkk, hg, rfl, I, N⟩ := hrel
    have HB := Aside0.mk (HBB.out kk wr I.out)
    by_cases hlt : kk < xs.length
    · have hltz : (kk : Int) < (xs.length : Int) := by omega
      have hC := HC.out
      have hstep := HS.out
      obtain ⟨ad, cs, rfl, _, hK, hcc⟩ := Kd.C_get hC z41 (kk : Int) (by omega) (by omega)
      have hK' := hK
      obtain ⟨A3, c3, A4, c4, rfl, _⟩ := k41_open hK'
      have hx0 := (HB.out.cell (World.block_lt_of_cell? w0 _ (hcc 0 _ rfl))).trans (hcc 0 _ rfl)
      have hx1 := (HB.out.cell (World.block_lt_of_cell? w0 _ (hcc 1 _ rfl))).trans (hcc 1 _ rfl)
      have hx2 := (HB.out.cell (World.block_lt_of_cell? w0 _ (hcc 2 _ rfl))).trans (hcc 2 _ rfl)
      have hx3 := (HB.out.cell (World.block_lt_of_cell? w0 _ (hcc 3 _ rfl))).trans (hcc 3 _ rfl)
      have hx4 := (HB.out.cell (World.block_lt_of_cell? w0 _ (hcc 4 _ rfl))).trans (hcc 4 _ rfl)
      rw [show (k41).sz = 5 from rfl, Nat.add_zero, Int.toNat_natCast] at hx0
      rw [show (k41).sz = 5 from rfl, Int.toNat_natCast, add_field _ _ 1 (by omega)] at hx1
      rw [show (k41).sz = 5 from rfl, Int.toNat_natCast, add_field _ _ 2 (by omega)] at hx2
      rw [show (k41).sz = 5 from rfl, Int.toNat_natCast, add_field _ _ 3 (by omega)] at hx3
      rw [show (k41).sz = 5 from rfl, Int.toNat_natCast, add_field _ _ 4 (by omega)] at hx4
      have hcall := hstep kk wr _ (by omega) I.out hK
      clear hcc hstep hC
      try simp only [Int.toNat_natCast] at hcall
      try simp only [Int.toNat_natCast] at hx0 hx1 hx2 hx3 hx4
      generalize xs.getD kk z41 = y at hcall hx0 hx1 hx2 hx3 hx4 hK
      clear hK
      cases hq : p kk with
      | true =>
        rw [hq] at hcall
        have Hq := Aside0.mk hq
        clear hq
        go_wp2_with (go_at_fn g; refine hcall.mono ?_; rintro e w' ⟨rfl, hf, _⟩; have HF := Aside0.mk (hf rfl); clear hf)
        go_ret
        exact .inr ⟨kk, hlt, rfl, N.out, Hq.out, HF.out⟩
      | false =>
        rw [hq] at hcall
        have Hq := Aside0.mk hq
        clear hq
        go_wp2_with (go_at_fn g; refine hcall.mono ?_; rintro e w' ⟨rfl, _, hf⟩; have HF := Aside0.mk (hf rfl); clear hf)
        go_roundg (xs.length - (kk + 1))
        case measure => omega
        case rel =>
          refine ⟨kk + 1, by omega, by omega, by go_num, HF, ⟨fun j hj => ?_⟩⟩
          by_cases e : j = kk
          · subst e; exact Hq.out
          · exact N.out j (by omega)
    · have hltz : ¬ (kk : Int) < (xs.length : Int) := by omega
      obtain rfl : kk = xs.length := by omega
      go_wp2
      go_ret
      exact .inl ⟨rfl, N.out, I.out⟩
theorem ct_Expr (g : Nat) (lb : Array Value) (eg : ∀ args w, (callFunc g args).run Try.prog w = .ok (.enter g args) w) (w0 w : World) (A : Option Addr) (c : Nat) (xs : List S41) (hC : Kd.C k41 w0 A xs.length xs) (p : Nat → Bool) (Inv Fin : Nat → World → Prop) (hB : ∀ i W, Inv i W → Below w0.heap.size w0 W)
    (hstep : ∀ i W cs, i < xs.length → Inv i W → k41.K w0 (xs.getD i z41) cs → Calls Try.prog g (#[(.agg cs.toArray)] ++ lb) W fun e W' => e = .returned (.bool (p i)) ∧ (p i = true → Fin i W') ∧ (p i = false → Inv (i + 1) W')) (h0 : Inv 0 w) :
    Calls Try.prog 91 #[.slice A xs.length c, .func (.func g) #[] lb] w (CtPost xs.length p Inv Fin) := by
  have hix := ix_Expr g lb eg w0 w A c xs hC p Inv Fin hB hstep h0
  have H0 := Aside0.mk hix
  clear h0 hC hstep hB eg hix
  go_enter Try.func91, Try.ntmps91
  go_wp2_with fail
  refine H0.out.mono ?_
  clear H0
  intro e w' h
  rcases h with ⟨rfl, h1, h2⟩ | ⟨i, hi, rfl, h0, h1, h2⟩
  · have HF : CtPost xs.length p Inv Fin (.returned (.bool false)) w' := .inl ⟨rfl, h1, h2⟩
    have HF := Aside0.mk HF
    clear h1 h2
    go_wp2
    go_ret
    exact HF.out
  · have HF : CtPost xs.length p Inv Fin (.returned (.bool true)) w' := .inr ⟨i, hi, rfl, h0, h1, h2⟩
    have HF := Aside0.mk HF
    clear h1 h2 h0
    have hd : decide ((i : Int) ≥ 0) = true := decide_eq_true (by omega)
    go_wp2
    go_ret
    exact HF.out

/-! ### string -/
set_option maxHeartbeats 2000000 in
theorem ix_string (g : Nat) (lb : Array Value) (eg : ∀ args w, (callFunc g args).run Try.prog w = .ok (.enter g args) w) (w0 w : World) (A : Option Addr) (c : Nat) (xs : List ByteArray) (hC : Kd.C Kd.string w0 A xs.length xs) (p : Nat → Bool) (Inv Fin : Nat → World → Prop) (hB : ∀ i W, Inv i W → Below w0.heap.size w0 W)
    (hstep : ∀ i W, i < xs.length → Inv i W → Calls Try.prog g (#[(.string (xs.getD i (⟨#[]⟩ : ByteArray)))] ++ lb) W fun e W' => e = .returned (.bool (p i)) ∧ (p i = true → Fin i W') ∧ (p i = false → Inv (i + 1) W')) (h0 : Inv 0 w) :
    Calls Try.prog 69 #[.slice A xs.length c, .func (.func g) #[] lb] w (IxPost xs.length p Inv Fin) := by
  have hmax : xs.length ≤ 9223372036854775807 := hC.2.1
  have H0 := Aside0.mk h0
  have HC := Aside0.mk hC
  have HS := Aside0.mk hstep
  have HBB := Aside0.mk hB
  clear h0 hC hstep hB
  go_enter Try.func69, Try.ntmps69
  go_wp2
  go_loopg [5, 8] xs.length (fun gg _ s8 wr => ∃ kk : Nat, kk ≤ xs.length ∧ xs.length - kk ≤ gg ∧ s8 = .int .i64 kk ∧ Aside0 (Inv kk wr) ∧ Aside0 (∀ j, j < kk → p j = false))
  case atStart => exact ⟨0, Nat.zero_le _, by omega, rfl, H0, ⟨fun j hj => absurd hj (Nat.not_lt_zero _)⟩⟩
  case round =>
    obtain ⟨kk, hkk, hg, rfl, I, N⟩ := hrel
    have HB := Aside0.mk (HBB.out kk wr I.out)
    by_cases hlt : kk < xs.length
    · have hltz : (kk : Int) < (xs.length : Int) := by omega
      have hC := HC.out
      have hstep := HS.out
      obtain ⟨ad, cs, rfl, _, hK, hcc⟩ := Kd.C_get hC (⟨#[]⟩ : ByteArray) (kk : Int) (by omega) (by omega)
      obtain rfl := hK
      have hx0 := (HB.out.cell (World.block_lt_of_cell? w0 _ (hcc 0 _ rfl))).trans (hcc 0 _ rfl)
      simp only [show Kd.string.sz = 1 from rfl, Nat.mul_one, Nat.add_zero, Int.toNat_natCast] at hx0
      have hcall := hstep kk wr (by omega) I.out
      clear hcc hstep hC
      try simp only [Int.toNat_natCast] at hcall
      try simp only [Int.toNat_natCast] at hx0
      generalize xs.getD kk (⟨#[]⟩ : ByteArray) = y at hcall hx0
      cases hq : p kk with
      | true =>
        rw [hq] at hcall
        have Hq := Aside0.mk hq
        clear hq
        go_wp2_with (go_at_fn g; refine hcall.mono ?_; rintro e w' ⟨rfl, hf, _⟩; have HF := Aside0.mk (hf rfl); clear hf)
        go_ret
        exact .inr ⟨kk, hlt, rfl, N.out, Hq.out, HF.out⟩
      | false =>
        rw [hq] at hcall
        have Hq := Aside0.mk hq
        clear hq
        go_wp2_with (go_at_fn g; refine hcall.mono ?_; rintro e w' ⟨rfl, _, hf⟩; have HF := Aside0.mk (hf rfl); clear hf)
        go_roundg (xs.length - (kk + 1))
        case measure => omega
        case rel =>
          refine ⟨kk + 1, by omega, by omega, by go_num, HF, ⟨fun j hj => ?_⟩⟩
          by_cases e : j = kk
          · subst e; exact Hq.out
          · exact N.out j (by omega)
    · have hltz : ¬ (kk : Int) < (xs.length : Int) := by omega
      obtain rfl : kk = xs.length := by omega
      go_wp2
      go_ret
      exact .inl ⟨rfl, N.out, I.out⟩
theorem ct_string (g : Nat) (lb : Array Value) (eg : ∀ args w, (callFunc g args).run Try.prog w = .ok (.enter g args) w) (w0 w : World) (A : Option Addr) (c : Nat) (xs : List ByteArray) (hC : Kd.C Kd.string w0 A xs.length xs) (p : Nat → Bool) (Inv Fin : Nat → World → Prop) (hB : ∀ i W, Inv i W → Below w0.heap.size w0 W)
    (hstep : ∀ i W, i < xs.length → Inv i W → Calls Try.prog g (#[(.string (xs.getD i (⟨#[]⟩ : ByteArray)))] ++ lb) W fun e W' => e = .returned (.bool (p i)) ∧ (p i = true → Fin i W') ∧ (p i = false → Inv (i + 1) W')) (h0 : Inv 0 w) :
    Calls Try.prog 52 #[.slice A xs.length c, .func (.func g) #[] lb] w (CtPost xs.length p Inv Fin) := by
  have hix := ix_string g lb eg w0 w A c xs hC p Inv Fin hB hstep h0
  have H0 := Aside0.mk hix
  clear h0 hC hstep hB eg hix
  go_enter Try.func52, Try.ntmps52
  go_wp2_with fail
  refine H0.out.mono ?_
  clear H0
  intro e w' h
  rcases h with ⟨rfl, h1, h2⟩ | ⟨i, hi, rfl, h0, h1, h2⟩
  · have HF : CtPost xs.length p Inv Fin (.returned (.bool false)) w' := .inl ⟨rfl, h1, h2⟩
    have HF := Aside0.mk HF
    clear h1 h2
    go_wp2
    go_ret
    exact HF.out
  · have HF : CtPost xs.length p Inv Fin (.returned (.bool true)) w' := .inr ⟨i, hi, rfl, h0, h1, h2⟩
    have HF := Aside0.mk HF
    clear h1 h2 h0
    have hd : decide ((i : Int) ≥ 0) = true := decide_eq_true (by omega)
    go_wp2
    go_ret
    exact HF.out

end Go.Proofs.Ytcekbkbhaceilaa
