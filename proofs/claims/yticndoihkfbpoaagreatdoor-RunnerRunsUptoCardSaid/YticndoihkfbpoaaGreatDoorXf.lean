/- Package runner: what an instant ends with; rows of numbers beside a map; which arm of a case. -/
import Derived.Test.YticndoihkfbpoaaGreatDoorXe
namespace Go.Proofs.YticndoihkfbpoaaGreatDoor
open Go Go.RowKit Go.Lib Go.Proofs.YticndoihkfbpoaaGreatDoorW.PrintWords Go.Proofs.YticndoihkfbpoaaGreatDoor.PScope
set_option maxRecDepth 100000
set_option linter.unusedSimpArgs false
set_option linter.unusedVariables false
attribute [local irreducible] wpStill
theorem ints_kept {w w' : World} {B : Option Addr} {n : Nat} {xs : List Int} (hc : ∀ a v, w.cell? a = some v → w'.cell? a = some v) (h : (Kd.int .i64).C w B n xs) : (Kd.int .i64).C w' B n xs := by
 obtain ⟨h1, h2, h3⟩ := h
 refine ⟨h1, h2, fun hne => ?_⟩
 obtain ⟨ad, ha, hh⟩ := h3 hne
 refine ⟨ad, ha, fun j p hj => ?_⟩
 obtain ⟨cs, hk, hl, hcc⟩ := hh j p hj
 exact ⟨cs, hk, hl, fun i u hu => hc _ _ (hcc i u hu)⟩
theorem cells_map {w w' : World} {mp : Nat} {F : ByteArray → Option Value} (hs : StrMap w mp F) (hg : w.grownBy w' (some mp)) (a : Addr) (v : Value) (h : w.cell? a = some v) : w'.cell? a = some v := by
 obtain ⟨es, clk, hb, _⟩ := hs
 have hlt : a.block < w.heap.size := World.block_lt_of_cell? w _ h
 have hne : a.block ≠ mp := by
  intro e
  unfold World.cell? at h
  rw [e, hb] at h
  cases h
 exact (World.cell?_of_block (hg.block a.block hlt (by intro e; injection e with e; exact hne e))).trans h
section
variable {w0 w w' : World} {g : Nat} {ma : Addr} {A : Option Addr} {c : Nat} {l : List FF} {N : Nat} {m : List Cl} {tr : Bool} {cn : Int} {gf : Nat} {base : Int} {mp : Nat} {f : Vars}
theorem doPost_trap {R : List Cl × Int × Option Vars} {m1 : List Cl} {cn1 : Int} (hR : R = (m1, cn1, none)) (hr : RAt w0 w' g ma A c l N m1 tr cn1) (ht : Turned (fun b => b = g ∨ b = ma.block ∨ b = mp) w w') : DoPost w0 g ma A c l N tr gf base mp R w trapE w' := by
 subst hR
 exact ⟨⟨rfl, hr⟩, ht⟩
theorem doPost_done {R : List Cl × Int × Option Vars} {m1 : List Cl} {cn1 : Int} {f1 : Vars} (hR : R = (m1, cn1, some f1)) (hr : FAt w0 w' g ma A c l N m1 tr cn1 gf base mp f1) (ht : Turned (fun b => b = g ∨ b = ma.block ∨ b = mp) w w') : DoPost w0 g ma A c l N tr gf base mp R w (.returned (.tuple #[])) w' := by
 subst hR
 exact ⟨⟨rfl, hr⟩, ht⟩
def InPost (w0 : World) (g : Nat) (ma : Addr) (A : Option Addr) (c : Nat) (l : List FF) (N : Nat) (tr : Bool) (r : List Cl × Int × Option (List Int)) (w : World) (e : Ending) (w' : World) : Prop :=
 (match r.2.2 with | some xs => (∃ B cB, e = .returned (.slice B xs.length cB) ∧ (Kd.int .i64).C w' B xs.length xs ∧ ∀ ad, B = some ad → w.heap.size ≤ ad.block) | none => e = trapE) ∧ RAt w0 w' g ma A c l N r.1 tr r.2.1 ∧ Turned (fun b => b = g ∨ b = ma.block) w w'
def ISays (w0 : World) (g : Nat) (ma : Addr) (A : Option Addr) (c : Nat) (l : List FF) (N : Nat) (tr : Bool) (d : Nat) (I : Inst) : Prop :=
 ∀ (fn fb : Int) (ins : List Int) (m : List Cl) (cn : Int) (w : World) (cs : List Value) (B : Option Addr) (cB : Nat), 0 ≤ fn → fn < (d : Int) → 0 ≤ fb → fb ≤ (N : Int) → ins.length = (l.getD fn.toNat zFF).params.length → RAt w0 w g ma A c l N m tr cn → (Kd.int .i64).C w B ins.length ins → kFF.K w0 (l.getD fn.toNat zFF) cs →
  Calls Tryz.prog 52 #[.pointer (some ⟨g, 0, none⟩), .agg cs.toArray, .int .i64 fb, .slice B ins.length cB] w (InPost w0 g ma A c l N tr (I fn fb ins m cn) w)
def DoSays (w0 : World) (g : Nat) (ma : Addr) (A : Option Addr) (c : Nat) (l : List FF) (N : Nat) (tr : Bool) (gf : Nat) (base : Int) (mp : Nat) (I : Inst) (d : Nat) (xs : List FS) : Prop :=
 badL (d : Int) xs = false → ∀ (f : Vars) (m : List Cl) (cn : Int) (w : World) (B : Option Addr) (cB : Nat), FAt w0 w g ma A c l N m tr cn gf base mp f → kFS.C w0 B xs.length xs →
  Calls Tryz.prog 71 #[.pointer (some ⟨gf, 0, none⟩), .slice B xs.length cB] w (DoPost w0 g ma A c l N tr gf base mp (doL I l N base xs f m cn) w)
theorem outsV_length (f : Vars) : ∀ (r : List ByteArray) (xs : List Int), outsV f r = some xs → xs.length = r.length
 | [], xs, h => by unfold outsV at h; injection h with h; subst h; rfl
 | s :: r, xs, h => by
  unfold outsV at h
  split at h
  ·cases hq : outsV f r with
   | none => rw [hq] at h; cases h
   | some q =>
    rw [hq] at h
    injection h with h
    subst h
    simp [outsV_length f r q hq]
  ·cases h
theorem instF_length (l : List FF) (N d : Nat) (k base : Int) (ins : List Int) (m : List Cl) (cn : Int) (xs : List Int) (h : (instF l N d k base ins m cn).2.2 = some xs) : xs.length = (l.getD k.toNat zFF).results.length := by
 cases d with
 | zero => cases h
 | succ d =>
  unfold instF instX at h
  split at h
  ·exact outsV_length _ _ _ h
  ·cases h
set_option maxHeartbeats 1000000 in
theorem do1_calls (x : Int × List FS) (cs : List Value) (hK : kFA.K w0 x cs) (b : Nat) (v : Int) (on : Bool) (w : World) (hb : w.heap[b]? = some (.cells #[.int .i64 v, .bool on] 91 (0, 0))) :
  Calls Tryz.prog 112 #[.agg cs.toArray, .pointer (some ⟨b, 0, none⟩)] w fun e w' => e = .returned (.bool (x.1 == v)) ∧ Below w.heap.size w w' := by
 obtain ⟨sA1, sc1, rfl, sl1, sg1⟩ := kFA_open hK
 clear sl1 sg1
 have h0 := (blk_cell hb 0).trans rfl
 clear hb hK
 have hs := (blk_new w (.cells #[.int .i64 x.1, .slice sA1 x.2.length sc1] 147))
 have hz := cell?_alloc_some (.cells #[.int .i64 x.1, .slice sA1 x.2.length sc1] 147) h0
 have s0 := (blk_cell hs 0).trans rfl
 have hB := Aside0.mk (below_alloc (Below.refl w.heap.size w) (.cells #[.int .i64 x.1, .slice sA1 x.2.length sc1] 147))
 clear hs h0
 go_enter Tryz.func112, Tryz.ntmps112
 go_wp2_with fail
 go_ret
 exact ⟨rfl, hB.out⟩
theorem do1_eg : ∀ args w, (callFunc 112 args).run Tryz.prog w = .ok (.enter 112 args) w := enters_of Tryz.func112 (by kernel_rfl) rfl
theorem arm_calls {xs : List (Int × List FS)} {B : Option Addr} {cB : Nat} (hC : kFA.C w0 B xs.length xs) (hB : Below w0.heap.size w0 w) {b : Nat} {v : Int} {on : Bool} (hb : w.heap[b]? = some (.cells #[.int .i64 v, .bool on] 91 (0, 0))) :
  Calls Tryz.prog 111 #[.slice B xs.length cB, .func (.func 112) #[] #[.pointer (some ⟨b, 0, none⟩)]] w fun e w' => Below w.heap.size w w' ∧
   ((e = .returned (.int .i64 (-1)) ∧ ∀ i, i < xs.length → ((xs.getD i zFA).1 == v) = false) ∨ ∃ i : Nat, i < xs.length ∧ e = .returned (.int .i64 (i : Int)) ∧ (∀ j, j < i → ((xs.getD j zFA).1 == v) = false) ∧ ((xs.getD i zFA).1 == v) = true) := by
 refine (ix_FArm 112 #[.pointer (some ⟨b, 0, none⟩)] do1_eg w w B cB xs (Kd.C_below hC hB) (fun i => (xs.getD i zFA).1 == v) (fun _ W => Below w.heap.size w W) (fun _ W => Below w.heap.size w W) (fun _ _ h => h) ?_ (Below.refl _ _)).mono ?_
 ·intro i W cs hi hW hK
  refine (do1_calls _ cs hK b v on W (below_blk hb hW)).mono ?_
  rintro e W' ⟨rfl, hb'⟩
  exact ⟨rfl, fun _ => below_step hW hb', fun _ => below_step hW hb'⟩
 ·rintro e w' (⟨rfl, h1, h2⟩ | ⟨i, hi, rfl, h1, h2, h3⟩)
  ·exact ⟨h2, .inl ⟨rfl, h1⟩⟩
  ·exact ⟨h3, .inr ⟨i, hi, rfl, h1, h2⟩⟩
def StepSays (w0 : World) (g : Nat) (ma : Addr) (A : Option Addr) (c : Nat) (l : List FF) (N : Nat) (tr : Bool) (gf : Nat) (base : Int) (mp : Nat) (I : Inst) (d : Nat) : Prop :=
 ∀ (s : FS) (cs : List Value) (f : Vars) (m : List Cl) (cn : Int) (w : World), s.op = 3 → badS (d : Int) s = false → kFS.K w0 s cs → FAt w0 w g ma A c l N m tr cn gf base mp f →
  Calls Tryz.prog 109 #[.pointer (some ⟨gf, 0, none⟩), .agg cs.toArray] w (DoPost w0 g ma A c l N tr gf base mp (stepX I l N base s.pos s.fn s.names s.args f m cn) w)
end
end Go.Proofs.YticndoihkfbpoaaGreatDoor
