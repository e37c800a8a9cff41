/- Package runner: Step. -/
import Derived.Test.YticndoihkfbpoaaGreatDoorXj
namespace Go.Proofs.YticndoihkfbpoaaGreatDoor
open Go Go.RowKit Go.Lib Go.Proofs.YticndoihkfbpoaaGreatDoorW.PrintWords Go.Proofs.YticndoihkfbpoaaGreatDoor.PScope
set_option maxRecDepth 100000
set_option linter.unusedSimpArgs false
set_option linter.unusedVariables false
attribute [local irreducible] wpStill
def lastV (l : List FF) : Int := ((l.length - 1 : Nat) : Int)
abbrev StepR := List Cl × Bool × Int × List Int × Int
def stepR (l : List FF) (N : Nat) (m : List Cl) (tr : Bool) (cn : Int) (ins : List Int) : StepR :=
 if ins.length = (l.getD (lastV l).toNat zFF).params.length then
  if tr then (m, true, cn, [], 13)
  else match instF l N l.length (lastV l) 0 ins m 0 with
   | (m1, cn1, some xs) => (m1, false, cn1, xs, 0)
   | (m1, cn1, none) => (m1, true, cn1, [], 12)
 else (m, tr, cn, [], 1)
def StepPost (w0 : World) (g : Nat) (ma : Addr) (A : Option Addr) (c : Nat) (l : List FF) (N : Nat) (r : StepR) (w : World) (e : Ending) (w' : World) : Prop :=
 (∃ B cB, e = .returned (.tuple #[.slice B r.2.2.2.1.length cB, .int .i64 r.2.2.2.2]) ∧ (Kd.int .i64).C w' B r.2.2.2.1.length r.2.2.2.1 ∧ ∀ ad, B = some ad → w.heap.size ≤ ad.block) ∧ RAt w0 w' g ma A c l N r.1 r.2.1 r.2.2.1 ∧ Turned (fun b => b = g ∨ b = ma.block) w w'
theorem ints_none (w : World) : (Kd.int .i64).C w none 0 [] := ⟨rfl, by decide, fun h => absurd h (by decide)⟩
theorem stepPost_none {w0 w w' : World} {g : Nat} {ma : Addr} {A : Option Addr} {c : Nat} {l : List FF} {N : Nat} {R : StepR} {m : List Cl} {tr : Bool} {cn er : Int} (hR : R = (m, tr, cn, [], er)) (hr : RAt w0 w' g ma A c l N m tr cn) (ht : Turned (fun b => b = g ∨ b = ma.block) w w') : StepPost w0 g ma A c l N R w (.returned (.tuple #[.slice none 0 0, .int .i64 er])) w' := by
 subst hR
 exact ⟨⟨none, 0, rfl, ints_none w', fun ad e => by cases e⟩, hr, ht⟩
theorem stepPost_some {w0 w w' : World} {g : Nat} {ma : Addr} {A : Option Addr} {c : Nat} {l : List FF} {N : Nat} {R : StepR} {m : List Cl} {cn : Int} {xs : List Int} {B : Option Addr} {cB : Nat} (hR : R = (m, false, cn, xs, 0)) (hr : RAt w0 w' g ma A c l N m false cn) (ht : Turned (fun b => b = g ∨ b = ma.block) w w') (hC : (Kd.int .i64).C w' B xs.length xs) (hf : ∀ ad, B = some ad → w.heap.size ≤ ad.block) : StepPost w0 g ma A c l N R w (.returned (.tuple #[.slice B xs.length cB, .int .i64 0])) w' := by
 subst hR
 exact ⟨⟨B, cB, rfl, hC, hf⟩, hr, ht⟩
theorem ints_kept2 {w w' : World} {B : Option Addr} {n : Nat} {xs : List Int} (hc : ∀ a p, w.cell? a = some (.int .i64 p) → w'.cell? a = some (.int .i64 p)) (h : (Kd.int .i64).C w B n xs) : (Kd.int .i64).C w' B n xs := by
 obtain ⟨h1, h2, h3⟩ := h
 refine ⟨h1, h2, fun hne => ?_⟩
 obtain ⟨ad, ha, hh⟩ := h3 hne
 refine ⟨ad, ha, fun j p hj => ?_⟩
 obtain ⟨cs, hl, hk, hcc⟩ := hh j p hj
 refine ⟨cs, hl, hk, fun i u hu => ?_⟩
 obtain rfl : cs = [.int .i64 p] := hk
 cases i with
 | succ i => simp at hu
 | zero =>
  simp at hu
  subst hu
  exact hc _ _ (hcc 0 _ rfl)
theorem ints_store {w : World} {b4 b5 : Nat} {t4 t5 : TypeId} {B : Option Addr} {n : Nat} {xs : List Int} (h : (Kd.int .i64).C w B n xs) (B4 : w.heap[b4]? = some (.cells #[.slice none 0 0] t4 (0, 0))) (B5 : w.heap[b5]? = some (.cells #[.int .i64 0] t5 (0, 0))) (hne : b5 ≠ b4) (u : Value) : (Kd.int .i64).C ((w.setCell ⟨b4, 0, none⟩ u).setCell ⟨b5, 0, none⟩ (.int .i64 0)) B n xs := by
 refine ints_kept2 (fun a p hc => ?_) h
 have n4 : a.block ≠ b4 := by
  intro e
  unfold World.cell? at hc
  rw [e, B4] at hc
  dsimp only at hc
  split at hc
  ·cases hc
  ·rcases ho : a.off with _ | k
   ·rw [ho] at hc; cases hc
   ·rw [ho] at hc; cases hc
 have h1 : (w.setCell ⟨b4, 0, none⟩ u).cell? a = some (.int .i64 p) := (World.cell?_of_block (Below.heap_setCell w ⟨b4, 0, none⟩ u a.block n4)).trans hc
 by_cases e : a.block = b5
 ·have B5' := blk_far (p := ⟨b4, 0, none⟩) B5 hne u
  have q := blk_put (cs := #[.int .i64 0]) B5' 0 (.int .i64 0) rfl
  refine (World.cell?_of_block ?_).trans h1
  rw [e, q, B5']; rfl
 ·exact (World.cell?_of_block (Below.heap_setCell _ ⟨b5, 0, none⟩ (.int .i64 0) a.block e)).trans h1
theorem Turned.trans_fresh {S S2 : Nat → Prop} {w w5 w6 : World} (h : Turned S w w5) (h2 : Turned S2 w5 w6) (hs : ∀ k, S2 k → S k ∨ w.heap.size ≤ k) : Turned S w w6 :=
 ⟨h2.os.trans h.os, h2.tape.trans h.tape, h2.output.trans h.output, Nat.le_trans h.size h2.size, fun k hk hn => (h2.block k (Nat.lt_of_lt_of_le hk h.size) (fun s => (hs k s).elim hn (fun e => absurd hk (by omega)))).trans (h.block k hk hn)⟩
theorem Turned.set_fresh {S : Nat → Prop} {a b : World} (h : Turned S a b) {p : Addr} (hp : a.heap.size ≤ p.block) (u : Value) : Turned S a (b.setCell p u) :=
 ⟨h.os, h.tape, h.output, by have := h.size; simpa using this, fun k hk hs => (Below.heap_setCell b p u k (fun e => by rw [e] at hk; exact absurd hk (by omega))).trans (h.block k hk hs)⟩
theorem stepR_arg {l : List FF} {N : Nat} {m : List Cl} {tr : Bool} {cn : Int} {ins : List Int} (h : ¬ ins.length = (l.getD (lastV l).toNat zFF).params.length) : stepR l N m tr cn ins = (m, tr, cn, [], 1) := if_neg h
theorem stepR_state {l : List FF} {N : Nat} {m : List Cl} {cn : Int} {ins : List Int} (h : ins.length = (l.getD (lastV l).toNat zFF).params.length) : stepR l N m true cn ins = (m, true, cn, [], 13) := by
 unfold stepR
 rw [if_pos h, if_pos rfl]
theorem stepR_some {l : List FF} {N : Nat} {m : List Cl} {cn : Int} {ins : List Int} {m1 : List Cl} {cn1 : Int} {xs : List Int} (h : ins.length = (l.getD (lastV l).toNat zFF).params.length) (hr : instF l N l.length (lastV l) 0 ins m 0 = (m1, cn1, some xs)) : stepR l N m false cn ins = (m1, false, cn1, xs, 0) := by
 unfold stepR
 rw [if_pos h, hr]; rfl
theorem stepR_trap {l : List FF} {N : Nat} {m : List Cl} {cn : Int} {ins : List Int} {m1 : List Cl} {cn1 : Int} (h : ins.length = (l.getD (lastV l).toNat zFF).params.length) (hr : instF l N l.length (lastV l) 0 ins m 0 = (m1, cn1, none)) : stepR l N m false cn ins = (m1, true, cn1, [], 12) := by
 unfold stepR
 rw [if_pos h, hr]; rfl
theorem step1_eg : ∀ args w, (callFunc 51 args).run Tryz.prog w = .ok (.enter 51 args) w := enters_of Tryz.func51 (by kernel_rfl) rfl
theorem step1_inv (b2 b4 b5 : Nat) (w : World) : (invoke (.fn (.func 51) #[.pointer (some ⟨b2, 0, none⟩), .pointer (some ⟨b4, 0, none⟩), .pointer (some ⟨b5, 0, none⟩)]) #[]).run Tryz.prog w = .ok (.enter 51 #[.pointer (some ⟨b2, 0, none⟩), .pointer (some ⟨b4, 0, none⟩), .pointer (some ⟨b5, 0, none⟩)]) w := by
 simp [invoke, step1_eg, go_sem]
section
variable {fn : Func} {tmps : Array Value} {R : Ending → World → Prop}
theorem step_leave_none (hfn : fn.results = #[.cell 4 49, .cell 5 26]) {w : World} {b4 b5 : Nat} {v4 v5 : Value} (h4 : tmps.getD 4 undef = .pointer (some ⟨b4, 0, none⟩)) (h5 : tmps.getD 5 undef = .pointer (some ⟨b5, 0, none⟩))
  (B4 : w.heap[b4]? = some (.cells #[v4] 49 (0, 0))) (B5 : w.heap[b5]? = some (.cells #[v5] 26 (0, 0))) (hR : R (.returned (.tuple #[v4, v5])) w) :
  Leaves Tryz.prog fn tmps R [] .returning w :=
 ⟨_, results_pp hfn _ _ b4 b5 _ _ v4 v5 (0, 0) (0, 0) _ _ h4 B4 Tryz.underlying49 rfl h5 B5 Tryz.underlying26 rfl, hR⟩
theorem step_leave_idle (hfn : fn.results = #[.cell 4 49, .cell 5 26]) {w : World} {b2 b4 b5 : Nat} {v4 v5 : Value} (h4 : tmps.getD 4 undef = .pointer (some ⟨b4, 0, none⟩)) (h5 : tmps.getD 5 undef = .pointer (some ⟨b5, 0, none⟩))
  (B4 : w.heap[b4]? = some (.cells #[v4] 49 (0, 0))) (B5 : w.heap[b5]? = some (.cells #[v5] 26 (0, 0))) (hR : R (.returned (.tuple #[v4, v5])) w) :
  Leaves Tryz.prog fn tmps R [{ target := .fn (.func 51) #[.pointer (some ⟨b2, 0, none⟩), .pointer (some ⟨b4, 0, none⟩), .pointer (some ⟨b5, 0, none⟩)], args := #[] }] .returning w := by
 refine leaves_cons (by simp) (step1_inv b2 b4 b5 w) ((step1_idle b2 b4 b5 w).mono ?_)
 rintro e u' w' ⟨rfl, rfl, rfl⟩
 exact step_leave_none hfn h4 h5 B4 B5 hR
theorem step_leave_panic {w0 : World} {g : Nat} {ma : Addr} {A : Option Addr} {c : Nat} {l : List FF} {N : Nat} {m : List Cl} {tr : Bool} {cn : Int} (hfn : fn.results = #[.cell 4 49, .cell 5 26]) {w : World} {b2 b4 b5 : Nat} {v4 v5 : Value} (h4 : tmps.getD 4 undef = .pointer (some ⟨b4, 0, none⟩)) (h5 : tmps.getD 5 undef = .pointer (some ⟨b5, 0, none⟩))
  (hr : RAt w0 w g ma A c l N m tr cn) (B2 : w.heap[b2]? = some (.cells #[.pointer (some ⟨g, 0, none⟩)] 43 (0, 0))) (B4 : w.heap[b4]? = some (.cells #[v4] 49 (0, 0))) (B5 : w.heap[b5]? = some (.cells #[v5] 26 (0, 0)))
  (hn : b4 ≠ b5 ∧ g ≠ b4 ∧ g ≠ b5 ∧ ma.block ≠ b4 ∧ ma.block ≠ b5 ∧ w0.heap.size ≤ b4 ∧ w0.heap.size ≤ b5)
  (hR : ∀ w', RAt w0 w' g ma A c l N m true cn → Turned (fun k => k = g ∨ k = b4 ∨ k = b5) w w' → R (.returned (.tuple #[.slice none 0 0, .int .i64 12])) w') :
  Leaves Tryz.prog fn tmps R [{ target := .fn (.func 51) #[.pointer (some ⟨b2, 0, none⟩), .pointer (some ⟨b4, 0, none⟩), .pointer (some ⟨b5, 0, none⟩)], args := #[] }] (.panicking [{ v := trapV, recovered := false }]) w := by
 obtain ⟨n1, n2, n3, n4, n5, n6, n7⟩ := hn
 refine leaves_cons (by simp) (step1_inv b2 b4 b5 w) ((step1_panicking [] b2 b4 b5 v4 v5 hr B2 B4 B5 n1 n2 n3 n4 n5 n6 n7).mono ?_)
 rintro e u' w' ⟨rfl, rfl, hr', q4, q5, qt⟩
 exact step_leave_none hfn h4 h5 q4 q5 (hR w' hr' qt)
end
set_option maxHeartbeats 8000000 in
theorem stepm_calls {w0 w : World} {g : Nat} {ma : Addr} {A : Option Addr} {c : Nat} {l : List FF} {N : Nat} {m : List Cl} {tr : Bool} {cn : Int} (hok : flatOk l = true) (hsm : FlatSmall l) (hC : kFF.C w0 A l.length l) (hfw : ∀ f ∈ l, f.params.length ≤ 8796093022208) (hfr : ∀ f ∈ l, f.results.length ≤ 8796093022208)
  (ins : List Int) (B : Option Addr) (cB : Nat) (hV : ∀ W, Turned (fun b => b = g ∨ b = ma.block) w W → (Kd.int .i64).C W B ins.length ins) (h : RAt w0 w g ma A c l N m tr cn) : Calls Tryz.prog 25 #[.pointer (some ⟨g, 0, none⟩), .slice B ins.length cB] w (StepPost w0 g ma A c l N (stepR l N m tr cn ins) w) := by
 have hpos := flat_pos hok
 have HLC := Aside0.mk (fun (W : World) (hW : RAt w0 W g ma A c l N m tr cn) => last_calls hW hpos (by have := hsm.len; omega))
 have HLC0 := Aside0.mk (fun (W : World) (hW : RAt w0 W g ma A c l N m tr 0) => last_calls hW hpos (by have := hsm.len; omega))
 have HI := Aside0.mk (instF_says w0 g ma A c l N tr hok hsm hC hfw hfr l.length (Nat.le_refl _))
 have HC := Aside0.mk hC
 have HLM := Aside0.mk hsm.len
 obtain ⟨R, hR⟩ : ∃ R, stepR l N m tr cn ins = R := ⟨_, rfl⟩
 rw [hR]
 have HR := Aside0.mk hR
 obtain ⟨v, hv⟩ : ∃ v, lastV l = v := ⟨_, rfl⟩
 have HLV := Aside0.mk hv
 unfold lastV at hv
 have hv0 : 0 ≤ v := by omega
 have hv1 : v < (l.length : Int) := by omega
 rw [hv] at HLC HLC0
 obtain ⟨q1, q2, q3, q4⟩ := start3 w (.cells #[.pointer (some ⟨g, 0, none⟩)] 43 (0, 0)) (.cells #[.slice none 0 0] 49 (0, 0)) (.cells #[.int .i64 0] 26 (0, 0))
 have B2 := Aside0.mk q1; have B4 := Aside0.mk q2; have B5 := Aside0.mk q3; have HB := Aside0.mk q4
 have H1 := Aside0.mk (h.below' q4)
 have HV := Aside0.mk hV
 have LG := Aside0.mk (show g < w.heap.size ∧ ma.block < w.heap.size ∧ w0.heap.size ≤ w.heap.size from ⟨blk_lt h.blk, blk_lt h.mem.2, h.below.size⟩)
 clear q1 q2 q3 q4 h hV hok hsm hC hfw hfr hR hv hpos
 go_enter_defers Tryz.func25, Tryz.ntmps25
 go_wp2_with fail
 generalize ((w.alloc (.cells #[.pointer (some ⟨g, 0, none⟩)] 43 (0, 0))).alloc (.cells #[.slice none 0 0] 49 (0, 0))).alloc (.cells #[.int .i64 0] 26 (0, 0)) = w1 at B2 B4 B5 HB H1 ⊢
 obtain ⟨xad, xcs, rfl, _, xK, xcc⟩ := Kd.C_get HC.out zFF v (by omega) (by omega)
 have xK' := xK
 obtain ⟨xA0, xc0, xA1, xc1, xA3, xc3, xA4, xc4, xA5, xc5, rfl, xl0, xg0, xl1, xg1, xl3, xg3, xl4, xg4, xl5, xg5⟩ := kFF_open6 xK'
 have xx0 := ((Below.refl w0.heap.size w0).cell (World.block_lt_of_cell? w0 _ (xcc 0 _ rfl))).trans (xcc 0 _ rfl)
 have xx1 := ((Below.refl w0.heap.size w0).cell (World.block_lt_of_cell? w0 _ (xcc 1 _ rfl))).trans (xcc 1 _ rfl)
 have xx2 := ((Below.refl w0.heap.size w0).cell (World.block_lt_of_cell? w0 _ (xcc 2 _ rfl))).trans (xcc 2 _ rfl)
 have xx3 := ((Below.refl w0.heap.size w0).cell (World.block_lt_of_cell? w0 _ (xcc 3 _ rfl))).trans (xcc 3 _ rfl)
 have xx4 := ((Below.refl w0.heap.size w0).cell (World.block_lt_of_cell? w0 _ (xcc 4 _ rfl))).trans (xcc 4 _ rfl)
 have xx5 := ((Below.refl w0.heap.size w0).cell (World.block_lt_of_cell? w0 _ (xcc 5 _ rfl))).trans (xcc 5 _ rfl)
 rw [show (kFF).sz = 6 from rfl, Nat.add_zero] at xx0
 rw [show (kFF).sz = 6 from rfl, add_field _ _ 1 (by omega)] at xx1
 rw [show (kFF).sz = 6 from rfl, add_field _ _ 2 (by omega)] at xx2
 rw [show (kFF).sz = 6 from rfl, add_field _ _ 3 (by omega)] at xx3
 rw [show (kFF).sz = 6 from rfl, add_field _ _ 4 (by omega)] at xx4
 rw [show (kFF).sz = 6 from rfl, add_field _ _ 5 (by omega)] at xx5
 clear xcc
 generalize Yx0 : l.getD v.toNat zFF = x at xx0 xx1 xx2 xx3 xx4 xx5 xK xl0 xg0 xl1 xg1 xl3 xg3 xl4 xg4 xl5 xg5
 have Yx := Aside0.mk Yx0; clear Yx0
 have xL0 := Aside0.mk xl0; have xG0 := Aside0.mk xg0; clear xl0 xg0
 have xL1 := Aside0.mk xl1; have xG1 := Aside0.mk xg1; clear xl1 xg1
 have xL3 := Aside0.mk xl3; have xG3 := Aside0.mk xg3; clear xl3 xg3
 have xL4 := Aside0.mk xl4; have xG4 := Aside0.mk xg4; clear xl4 xg4
 have xL5 := Aside0.mk xl5; have xG5 := Aside0.mk xg5; clear xl5 xg5
 have z0 := (H1.out.below.cell (World.block_lt_of_cell? w0 _ xx0)).trans xx0
 have z1 := (H1.out.below.cell (World.block_lt_of_cell? w0 _ xx1)).trans xx1
 have z2 := (H1.out.below.cell (World.block_lt_of_cell? w0 _ xx2)).trans xx2
 have z3 := (H1.out.below.cell (World.block_lt_of_cell? w0 _ xx3)).trans xx3
 have z4 := (H1.out.below.cell (World.block_lt_of_cell? w0 _ xx4)).trans xx4
 have z5 := (H1.out.below.cell (World.block_lt_of_cell? w0 _ xx5)).trans xx5
 have XX := Aside0.mk (And.intro xx0 (And.intro xx1 (And.intro xx2 (And.intro xx3 (And.intro xx4 xx5)))))
 clear xx0 xx1 xx2 xx3 xx4 xx5
 have XK := Aside0.mk xK
 clear xK
 have c2 := (blk_cell B2.out 0).trans rfl
 have y0 := (blk_cell H1.out.blk 0).trans rfl
 by_cases hq : ins.length = x.params.length
 ·have d0 : ((ins.length : Int) != (x.params.length : Int)) = false := by rw [hq]; simp
  have QX := Aside0.mk (show ins.length = (l.getD (lastV l).toNat zFF).params.length by rw [HLV.out, Yx.out]; exact hq)
  clear hq
  go_quiet ((go_at_call 50; exact Calls.quiet_of_same (HLC.out _ (H1.out.below' (pw_below_drewN (Below.refl _ _) _)))))
  cases tr with
  | true =>
   have HRE := Aside0.mk (show R = (m, true, cn, [], 13) by rw [← HR.out]; exact stepR_state QX.out)
   have y2 := (blk_cell (blk_drewN H1.out.blk nq) 2).trans rfl
   clear HR HI HLC HLC0
   have c4 := (blk_cell (blk_drewN B4.out nq) 0).trans rfl
   have f4 := blk_frozen (blk_drewN B4.out nq) 0
   have B5' := Aside0.mk (blk_far (p := ⟨w.heap.size + 1, 0, none⟩) (blk_drewN B5.out nq) (by show w.heap.size + 1 + 1 ≠ w.heap.size + 1; omega) (.slice none 0 0))
   have c5 := (blk_cell B5'.out 0).trans rfl
   have f5 := blk_frozen B5'.out 0
   go_wp2_with fail
   have hg := LG.out
   unfold bodyPostD
   refine step_leave_none (by rfl) (by rfl) (by rfl) (blk_far (p := ⟨w.heap.size + 1 + 1, 0, none⟩) (blk_put (cs := #[.slice none 0 0]) (blk_drewN B4.out nq) 0 (.slice none 0 0) rfl) (by show w.heap.size + 1 ≠ w.heap.size + 1 + 1; omega) (.int .i64 13)) (blk_put (cs := #[.int .i64 0]) B5'.out 0 (.int .i64 13) rfl) ?_
   refine stepPost_none HRE.out (((H1.out.below' (pw_below_drewN (Below.refl _ _) nq)).farS (j := 0) (by omega) (by omega) (by omega) (.slice none 0 0)).farS (j := 0) (by omega) (by omega) (by omega) (.int .i64 13)) ?_
   exact Turned.of_below (below_set (below_set (pw_below_drewN HB.out nq) (by omega)) (by omega))
  | false =>
   have hmf := run_mkfn
   have y2 := (blk_cell (blk_drewN H1.out.blk nq) 2).trans rfl
   have y3 := (blk_cell (blk_drewN H1.out.blk nq) 3).trans rfl
   have f3 := blk_frozen (blk_drewN H1.out.blk nq) 3
   have hg := LG.out
   have B2' := Aside0.mk (blk_far (p := ⟨g, 3, none⟩) (blk_drewN B2.out nq) (by show w.heap.size ≠ g; omega) (.int .i64 0))
   have B4' := Aside0.mk (blk_far (p := ⟨g, 3, none⟩) (blk_drewN B4.out nq) (by show w.heap.size + 1 ≠ g; omega) (.int .i64 0))
   have B5' := Aside0.mk (blk_far (p := ⟨g, 3, none⟩) (blk_drewN B5.out nq) (by show w.heap.size + 1 + 1 ≠ g; omega) (.int .i64 0))
   have H2 := Aside0.mk ((H1.out.below' (pw_below_drewN (Below.refl _ _) nq)).countS 0)
   have HT := Aside0.mk ((Turned.of_below (S := fun b => b = g ∨ b = ma.block) (pw_below_drewN HB.out nq)).set (p := ⟨g, 3, none⟩) (.inl rfl) (.int .i64 0))
   clear hg
   go_wp2_with fail
   clear y2 y3 f3 z0 z1 z2 z3 z4 z5 c2 y0
   generalize (w1.drewN nq).setCell ⟨g, 3, none⟩ (.int .i64 0) = w3 at B2' B4' B5' H2 HT ⊢
   clear B2 B4 B5 HB H1
   obtain ⟨xx0, xx1, xx2, xx3, xx4, xx5⟩ := XX.out
   have z0 := (H2.out.below.cell (World.block_lt_of_cell? w0 _ xx0)).trans xx0
   have z1 := (H2.out.below.cell (World.block_lt_of_cell? w0 _ xx1)).trans xx1
   have z2 := (H2.out.below.cell (World.block_lt_of_cell? w0 _ xx2)).trans xx2
   have z3 := (H2.out.below.cell (World.block_lt_of_cell? w0 _ xx3)).trans xx3
   have z4 := (H2.out.below.cell (World.block_lt_of_cell? w0 _ xx4)).trans xx4
   have z5 := (H2.out.below.cell (World.block_lt_of_cell? w0 _ xx5)).trans xx5
   clear xx0 xx1 xx2 xx3 xx4 xx5
   have c2 := (blk_cell B2'.out 0).trans rfl
   have y0 := (blk_cell H2.out.blk 0).trans rfl
   have H2d := Aside0.mk (H2.out.below' (below_drew1 (Below.refl _ _)))
   go_still_tail 10, (by kernel_rfl)
   still_call (HLC0.out _ H2d.out)
   repeat still_step
   refine wpStill_nil ?_
   change wpList _ _ _ _ _ (World.drew w3)
   clear z0 z1 z2 z3 z4 z5 c2 y0
   replace B2' := Aside0.mk (blk_drew B2'.out)
   replace B4' := Aside0.mk (blk_drew B4'.out)
   replace B5' := Aside0.mk (blk_drew B5'.out)
   replace HT := Aside0.mk HT.out.drew
   clear H2
   generalize World.drew w3 = w4 at B2' B4' B5' HT H2d ⊢
   obtain ⟨b2, hb2⟩ : ∃ b, w.heap.size = b := ⟨_, rfl⟩
   have HIN := Aside0.mk (HI.out v 0 ins m 0 w4 #[.slice xA0 (x.params).length xc0, .slice xA1 (x.results).length xc1, .int .i64 x.cells, .slice xA3 (x.flags).length xc3, .slice xA4 (x.parts).length xc4, .slice xA5 (x.body).length xc5].toList B cB hv0 hv1 (Int.le_refl _) (by omega) (by rw [← HLV.out]; exact QX.out) H2d.out (HV.out _ HT.out) (by rw [Yx.out]; exact XK.out))
   clear hb2 b2
   go_wp2_with fail
   refine HIN.out.mono ?_
   intro e w5 hp
   unfold InPost at hp
   have hg := LG.out
   rcases hr : instF l N l.length v 0 ins m 0 with ⟨m2, cn2, _ | xs⟩
   ·rw [hr] at hp
    obtain ⟨rfl, hR5, ht5⟩ := hp
    have HRE := Aside0.mk (show R = (m2, true, cn2, [], 12) by rw [← HR.out]; exact stepR_trap QX.out (by rw [HLV.out]; exact hr))
    have B25 := Aside0.mk (ht5.blk B2'.out (fun e => e.elim (by omega) (by omega)))
    have B45 := Aside0.mk (ht5.blk B4'.out (fun e => e.elim (by omega) (by omega)))
    have B55 := Aside0.mk (ht5.blk B5'.out (fun e => e.elim (by omega) (by omega)))
    have H5 := Aside0.mk hR5
    have HT5 := Aside0.mk (HT.out.trans ht5)
    clear hr hR5 ht5 HR
    go_wp2_with fail
    unfold bodyPostD
    refine step_leave_panic (by rfl) (by rfl) (by rfl) H5.out B25.out B45.out B55.out ⟨by omega, by omega, by omega, by omega, by omega, by omega, by omega⟩ ?_
    intro w6 hr6 ht6
    refine stepPost_none HRE.out hr6 (HT5.out.trans_fresh ht6 (fun k hk => ?_))
    rcases hk with rfl | rfl | rfl
    ·exact .inl (.inl rfl)
    ·exact .inr (by omega)
    ·exact .inr (by omega)
   ·rw [hr] at hp
    obtain ⟨⟨B9, cB9, rfl, hC9, hf9⟩, hR5, ht5⟩ := hp
    have HRE := Aside0.mk (show R = (m2, false, cn2, xs, 0) by rw [← HR.out]; exact stepR_some QX.out (by rw [HLV.out]; exact hr))
    have B45 := Aside0.mk (ht5.blk B4'.out (fun e => e.elim (by omega) (by omega)))
    have B55 := Aside0.mk (ht5.blk B5'.out (fun e => e.elim (by omega) (by omega)))
    have H5 := Aside0.mk hR5
    have HT5 := Aside0.mk (HT.out.trans ht5)
    have HC5 := Aside0.mk hC9
    have HF9 := Aside0.mk (fun ad e => Nat.le_trans HT.out.size (hf9 ad e))
    clear hr hR5 ht5 HR hC9 hf9
    have c4 := (blk_cell B45.out 0).trans rfl
    have f4 := blk_frozen B45.out 0
    have B55' := Aside0.mk (blk_far (p := ⟨w.heap.size + 1, 0, none⟩) B55.out (by show w.heap.size + 1 + 1 ≠ w.heap.size + 1; omega) (.slice B9 xs.length cB9))
    have c5 := (blk_cell B55'.out 0).trans rfl
    have f5 := blk_frozen B55'.out 0
    go_wp2_with fail
    unfold bodyPostD
    refine step_leave_idle (by rfl) (by rfl) (by rfl) (blk_far (p := ⟨w.heap.size + 1 + 1, 0, none⟩) (blk_put (cs := #[.slice none 0 0]) B45.out 0 (.slice B9 xs.length cB9) rfl) (by show w.heap.size + 1 ≠ w.heap.size + 1 + 1; omega) (.int .i64 0)) (blk_put (cs := #[.int .i64 0]) B55'.out 0 (.int .i64 0) rfl) ?_
    exact stepPost_some HRE.out ((H5.out.farS (j := 0) (by omega) (by omega) (by omega) (.slice B9 xs.length cB9)).farS (j := 0) (by omega) (by omega) (by omega) (.int .i64 0)) ((HT5.out.set_fresh (p := ⟨w.heap.size + 1, 0, none⟩) (by show w.heap.size ≤ w.heap.size + 1; omega) (.slice B9 xs.length cB9)).set_fresh (p := ⟨w.heap.size + 1 + 1, 0, none⟩) (by show w.heap.size ≤ w.heap.size + 1 + 1; omega) (.int .i64 0)) (ints_store HC5.out B45.out B55.out (by omega) (.slice B9 xs.length cB9)) HF9.out
 ·have d0 : ((ins.length : Int) != (x.params.length : Int)) = true := by rw [bne, beq_eq_false_iff_ne.2 (by omega)]; rfl
  have HRE := Aside0.mk (show R = (m, tr, cn, [], 1) by rw [← HR.out]; exact stepR_arg (by rw [HLV.out, Yx.out]; exact hq))
  clear hq HR HI HLC0
  go_quiet ((go_at_call 50; exact Calls.quiet_of_same (HLC.out _ (H1.out.below' (pw_below_drewN (Below.refl _ _) _)))))
  have c4 := (blk_cell (blk_drewN B4.out nq) 0).trans rfl
  have f4 := blk_frozen (blk_drewN B4.out nq) 0
  have B5' := Aside0.mk (blk_far (p := ⟨w.heap.size + 1, 0, none⟩) (blk_drewN B5.out nq) (by show w.heap.size + 1 + 1 ≠ w.heap.size + 1; omega) (.slice none 0 0))
  have c5 := (blk_cell B5'.out 0).trans rfl
  have f5 := blk_frozen B5'.out 0
  go_wp2_with fail
  have hg := LG.out
  unfold bodyPostD
  refine step_leave_none (by rfl) (by rfl) (by rfl) (blk_far (p := ⟨w.heap.size + 1 + 1, 0, none⟩) (blk_put (cs := #[.slice none 0 0]) (blk_drewN B4.out nq) 0 (.slice none 0 0) rfl) (by show w.heap.size + 1 ≠ w.heap.size + 1 + 1; omega) (.int .i64 1)) (blk_put (cs := #[.int .i64 0]) B5'.out 0 (.int .i64 1) rfl) ?_
  refine stepPost_none HRE.out (((H1.out.below' (pw_below_drewN (Below.refl _ _) nq)).farS (j := 0) (by omega) (by omega) (by omega) (.slice none 0 0)).farS (j := 0) (by omega) (by omega) (by omega) (.int .i64 1)) ?_
  exact Turned.of_below (below_set (below_set (pw_below_drewN HB.out nq) (by omega)) (by omega))
end Go.Proofs.YticndoihkfbpoaaGreatDoor
