/- Package runner: what statements do, in plain Lean; reset; which arm. -/
import Derived.Test.YticndoihkfbpoaaGreatDoorXd
namespace Go.Proofs.YticndoihkfbpoaaGreatDoor
open Go Go.RowKit Go.Lib Go.Proofs.YticndoihkfbpoaaGreatDoorW.PrintWords Go.Proofs.YticndoihkfbpoaaGreatDoor.PScope
set_option maxRecDepth 100000
set_option linter.unusedSimpArgs false
set_option linter.unusedVariables false
attribute [local irreducible] wpStill
abbrev Inst := Int → Int → List Int → List Cl → Int → List Cl × Int × Option (List Int)
def setAll : List ByteArray → List Int → Vars → Vars
 | s :: r, v :: q, f => setAll r q (mupd f s (v, true))
 | _, _, f => f
def argsV (m : List Cl) (base : Int) (f : Vars) : List S38 → Option (Bool × List Int)
 | [] => some (true, [])
 | e :: r => (valE m base f e).bind (fun c => (argsV m base f r).map (fun p => (c.2 && p.1, c.1 :: p.2)))
def stepX (I : Inst) (l : List FF) (N : Nat) (base pos fn : Int) (names : List ByteArray) (args : List S38) (f : Vars) (m : List Cl) (cn : Int) : List Cl × Int × Option Vars :=
 if (l.getD fn.toNat zFF).params.length = args.length ∧ (l.getD fn.toNat zFF).results.length = names.length then
  match argsV m base f args with
  | some (true, vs) => ((I fn (furV N base pos) vs m cn).1, (I fn (furV N base pos) vs m cn).2.1, (I fn (furV N base pos) vs m cn).2.2.map (fun outs => setAll names outs f))
  | _ => (m, cn, none)
 else (m, cn, none)
def resetOk (l : List FF) (N : Nat) (base pos fn : Int) : Prop := 0 ≤ pos ∧ pos ≤ (N : Int) - base ∧ (l.getD fn.toNat zFF).cells ≤ (N : Int) - furV N base pos
instance (l : List FF) (N : Nat) (base pos fn : Int) : Decidable (resetOk l N base pos fn) := by unfold resetOk; infer_instance
def resetX (l : List FF) (N : Nat) (base pos fn : Int) (f : Vars) (m : List Cl) (cn : Int) : List Cl × Int × Option Vars :=
 if resetOk l N base pos fn then (anewF l l.length fn (furV N base pos) m, cn, some f) else (m, cn, none)
def keepX (N : Nat) (base pos : Int) (v : Option Cl) (f : Vars) (m : List Cl) (cn : Int) : List Cl × Int × Option Vars :=
 match v with
 | some c => if c.2 = true ∧ 0 ≤ pos ∧ pos < (N : Int) - base then (m.set (base + pos).toNat c, cn, some f) else (m, cn, none)
 | none => (m, cn, none)
mutual
def doS (I : Inst) (l : List FF) (N : Nat) (base : Int) : FS → Vars → List Cl → Int → List Cl × Int × Option Vars
 | .mk op name pos fn names e args arms, f, m, cn =>
  if op = 1 then (m, cn, (valE m base f e).map (fun c => mupd f name c))
  else if op = 2 then keepX N base pos (valE m base f e) f m cn
  else if op = 3 then stepX I l N base pos fn names args f m cn
  else if op = 4 then resetX l N base pos fn f m cn
  else if op = 5 then (if (vget f name).2 then doA I l N base (vget f name).1 arms f m cn else (m, cn, none))
  else (m, cn, none)
def doL (I : Inst) (l : List FF) (N : Nat) (base : Int) : List FS → Vars → List Cl → Int → List Cl × Int × Option Vars
 | [], f, m, cn => (m, cn, some f)
 | s :: r, f, m, cn =>
  match doS I l N base s f m (wrap64 (cn + 1)) with
  | (m1, cn1, some f1) => doL I l N base r f1 m1 cn1
  | (m1, cn1, none) => (m1, cn1, none)
def doA (I : Inst) (l : List FF) (N : Nat) (base : Int) (v : Int) : List (Int × List FS) → Vars → List Cl → Int → List Cl × Int × Option Vars
 | [], f, m, cn => (m, cn, some f)
 | a :: r, f, m, cn => doP I l N base v a (fun _ => doA I l N base v r f m cn) f m cn
def doP (I : Inst) (l : List FF) (N : Nat) (base : Int) (v : Int) : Int × List FS → (Unit → List Cl × Int × Option Vars) → Vars → List Cl → Int → List Cl × Int × Option Vars
 | (k, b), q, f, m, cn => if k = v then doL I l N base b f m cn else q ()
end
def outsV (f : Vars) : List ByteArray → Option (List Int)
 | [] => some []
 | s :: r => if (vget f s).2 then (outsV f r).map (fun q => (vget f s).1 :: q) else none
def instX (I : Inst) (l : List FF) (N : Nat) (k base : Int) (ins : List Int) (m : List Cl) (cn : Int) : List Cl × Int × Option (List Int) :=
 match doL I l N base (l.getD k.toNat zFF).body (setAll (l.getD k.toNat zFF).params ins (fun _ => none)) m cn with
 | (m1, cn1, some f1) => (m1, cn1, outsV f1 (l.getD k.toNat zFF).results)
 | (m1, cn1, none) => (m1, cn1, none)
def instF (l : List FF) (N : Nat) : Nat → Inst
 | 0 => fun _ _ _ m cn => (m, cn, none)
 | d + 1 => instX (instF l N d) l N
theorem doS_eq (I : Inst) (l : List FF) (N : Nat) (base : Int) (s : FS) (f : Vars) (m : List Cl) (cn : Int) : doS I l N base s f m cn =
  if s.op = 1 then (m, cn, (valE m base f s.e).map (fun c => mupd f s.name c))
  else if s.op = 2 then keepX N base s.pos (valE m base f s.e) f m cn
  else if s.op = 3 then stepX I l N base s.pos s.fn s.names s.args f m cn
  else if s.op = 4 then resetX l N base s.pos s.fn f m cn
  else if s.op = 5 then (if (vget f s.name).2 then doA I l N base (vget f s.name).1 s.arms f m cn else (m, cn, none))
  else (m, cn, none) := by
 cases s
 rw [doS]; rfl
theorem doA_none (I : Inst) (l : List FF) (N : Nat) (base v : Int) (f : Vars) (m : List Cl) (cn : Int) : ∀ (r : List (Int × List FS)), (∀ i, i < r.length → ((r.getD i zFA).1 == v) = false) → doA I l N base v r f m cn = (m, cn, some f)
 | [], _ => by rw [doA]
 | (k, b) :: r, h => by
  have h0 := h 0 (by simp)
  rw [doA, doP, if_neg (by simpa using h0)]
  exact doA_none I l N base v f m cn r (fun i hi => h (i + 1) (by simpa using hi))
theorem doA_some (I : Inst) (l : List FF) (N : Nat) (base v : Int) (f : Vars) (m : List Cl) (cn : Int) : ∀ (r : List (Int × List FS)) (i : Nat), i < r.length → (∀ j, j < i → ((r.getD j zFA).1 == v) = false) → ((r.getD i zFA).1 == v) = true → doA I l N base v r f m cn = doL I l N base (r.getD i zFA).2 f m cn
 | [], i, hi, _, _ => by simp at hi
 | (k, b) :: r, 0, _, _, h => by
  rw [doA, doP, if_pos (by simpa using h)]; rfl
 | (k, b) :: r, i + 1, hi, hj, h => by
  have h0 := hj 0 (by omega)
  rw [doA, doP, if_neg (by simpa using h0)]
  exact doA_some I l N base v f m cn r i (by simpa using hi) (fun j hjj => hj (j + 1) (by omega)) h
theorem blk_put_far {W w2 : World} {g g' : Nat} {o : Obj} (h : W.heap[g]? = some o) (hg : W.grownBy w2 (some g')) (hne : g ≠ g') : w2.heap[g]? = some o := (hg.block g (blk_lt h) (by intro e; injection e with e; exact hne e)).trans h
theorem badS_fn4 {k : Int} {s : FS} (h : badS k s = false) (h4 : s.op = 4) : 0 ≤ s.fn ∧ s.fn < k := by
 rw [badS_eq, Bool.or_eq_false_iff] at h
 have := h.1
 unfold callBad at this
 simp only [h4, decide_true, Bool.or_true, Bool.true_and, Bool.or_eq_false_iff, decide_eq_false_iff_not] at this
 omega
section
variable {w0 w w' : World} {g : Nat} {ma : Addr} {A : Option Addr} {c : Nat} {l : List FF} {N : Nat} {m : List Cl} {tr : Bool} {cn : Int} {gf : Nat} {base : Int} {mp : Nat} {f : Vars}
theorem FAt.ne_gf (h : FAt w0 w g ma A c l N m tr cn gf base mp f) : gf ≠ g ∧ gf ≠ ma.block ∧ mp ≠ g ∧ mp ≠ ma.block ∧ gf ≠ mp := by
 have h1 := h.frm
 have h2 := h.run.blk
 have h3 := h.run.mem.2
 obtain ⟨es, clk, h4, _⟩ := h.vars
 refine ⟨?_, ?_, ?_, ?_, ?_⟩ <;> intro e
 ·exact blk_ne h1 h2 (by decide) e
 ·exact blk_ne h1 h3 (by decide) e
 ·rw [e, h2] at h4; cases h4
 ·rw [e, h3] at h4; cases h4
 ·rw [e, h4] at h1; cases h1
theorem FAt.turned {m1 : List Cl} {tr1 : Bool} {cn1 : Int} (h : FAt w0 w g ma A c l N m tr cn gf base mp f) (hR : RAt w0 w' g ma A c l N m1 tr1 cn1) (ht : Turned (fun b => b = g ∨ b = ma.block) w w') : FAt w0 w' g ma A c l N m1 tr1 cn1 gf base mp f := by
 obtain ⟨n1, n2, n3, n4, n5⟩ := h.ne_gf
 exact ⟨hR, ht.blk h.frm (by rintro (e | e) <;> contradiction), h.vars.kept (ht.block mp h.vars.lt (by rintro (e | e) <;> contradiction)), h.b0, h.b1, h.hf, h.hm⟩
theorem FAt.stored {f1 : Vars} (h : FAt w0 w g ma A c l N m tr cn gf base mp f) (hs : StrMap w' mp (menc encC f1)) (hg : w.grownBy w' (some mp)) : FAt w0 w' g ma A c l N m tr cn gf base mp f1 := by
 obtain ⟨n1, n2, n3, n4, n5⟩ := h.ne_gf
 refine ⟨⟨blk_put_far h.run.blk hg (fun e => n3 e.symm), ⟨h.run.mem.1, blk_put_far h.run.mem.2 hg (fun e => n4 e.symm)⟩, h.run.len, h.run.few, h.run.hg, h.run.hb, h.run.ne, ?_⟩, blk_put_far h.frm hg n5, hs, h.b0, h.b1, h.hf, h.hm⟩
 exact pw_below_grown h.run.below _ h.run.below.size hg (by rintro k ⟨⟩; exact h.hm)
def DoPost (w0 : World) (g : Nat) (ma : Addr) (A : Option Addr) (c : Nat) (l : List FF) (N : Nat) (tr : Bool) (gf : Nat) (base : Int) (mp : Nat) (r : List Cl × Int × Option Vars) (w : World) (e : Ending) (w' : World) : Prop :=
 (match r.2.2 with | some f1 => e = .returned (.tuple #[]) ∧ FAt w0 w' g ma A c l N r.1 tr r.2.1 gf base mp f1 | none => e = trapE ∧ RAt w0 w' g ma A c l N r.1 tr r.2.1) ∧ Turned (fun b => b = g ∨ b = ma.block ∨ b = mp) w w'
theorem T3_of {w w' : World} (h : Turned (fun b => b = g ∨ b = ma.block) w w') : Turned (fun b => b = g ∨ b = ma.block ∨ b = mp) w w' := h.mono (fun k _ hk => hk.elim .inl (fun e => .inr (.inl e)))
theorem T3_below {w w' : World} (h : Below w.heap.size w w') : Turned (fun b => b = g ∨ b = ma.block ∨ b = mp) w w' := Turned.of_below h
set_option maxHeartbeats 4000000 in
theorem reset_calls (hok : flatOk l = true) (hmx : l.length ≤ 9223372036854775807) (hC : kFF.C w0 A l.length l) (s : FS) (h4 : s.op = 4) (k : Int) (hk : k ≤ (l.length : Int)) (hb : badS k s = false) (cs : List Value) (hK : kFS.K w0 s cs) (h : FAt w0 w g ma A c l N m tr cn gf base mp f) :
  Calls Tryz.prog 110 #[.pointer (some ⟨gf, 0, none⟩), .agg cs.toArray] w (DoPost w0 g ma A c l N tr gf base mp (resetX l N base s.pos s.fn f m cn) w) := by
 have hfn := badS_fn4 hb h4
 have hf0 := hfn.1
 have hf1 : s.fn < (l.length : Int) := by omega
 clear hfn hb h4 hk
 obtain ⟨sA4, sc4, sA8, sc8, sA9, sc9, sA6, sc6, sA7, sc7, rfl, sl4, sg4, sl8, sg8, sl9, sg9, sl6, sg6, sl7, sg7⟩ := kFS_openV hK
 clear hK sl4 sg4 sl8 sg8 sl9 sg9 sl6 sg6 sl7 sg7
 have HOK := Aside0.mk hok; have HC := Aside0.mk hC; have HMX := Aside0.mk hmx
 clear hok hC hmx
 obtain ⟨fb, hfb⟩ : ∃ fb, furV N base s.pos = fb := ⟨_, rfl⟩
 have HIN := Aside0.mk (show 0 ≤ fb ∧ fb ≤ (N : Int) from hfb ▸ furV_in h.b0 h.b1)
 by_cases p0 : s.pos ≥ 0
 ·have d0 : decide (s.pos ≥ 0) = true := decide_eq_true p0
  by_cases p1 : s.pos ≤ (N : Int) - base
  ·have d1 : decide (s.pos ≤ (N : Int) - base) = true := decide_eq_true p1
   by_cases p2 : (l.getD s.fn.toNat zFF).cells ≤ (N : Int) - fb
   ·rw [show resetX l N base s.pos s.fn f m cn = (anewF l l.length s.fn fb m, cn, some f) by rw [← hfb]; exact if_pos ⟨p0, p1, by rw [hfb]; exact p2⟩]
    clear p0 p1
    have HD2 := Aside0.mk p2
    have hB := below_alloc (Below.refl w.heap.size w) (.cells #[.int .i64 s.op, .string s.name, .int .i64 s.pos, .int .i64 s.fn, .slice sA4 (s.names).length sc4, .int .i64 s.e.f0, .string s.e.f1, .int .i64 s.e.f2, .slice sA8 (s.e.f3).length sc8, .slice sA9 (s.e.f4).length sc9, .slice sA6 (s.args).length sc6, .slice sA7 (s.arms).length sc7] 41)
    have BS := Aside0.mk (blk_new w (.cells #[.int .i64 s.op, .string s.name, .int .i64 s.pos, .int .i64 s.fn, .slice sA4 (s.names).length sc4, .int .i64 s.e.f0, .string s.e.f1, .int .i64 s.e.f2, .slice sA8 (s.e.f3).length sc8, .slice sA9 (s.e.f4).length sc9, .slice sA6 (s.args).length sc6, .slice sA7 (s.arms).length sc7] 41))
    have HF := Aside0.mk (h.below' hB)
    have HB := Aside0.mk hB
    have hfu := fun (W : World) (hW : FAt w0 W g ma A c l N m tr cn gf base mp f) => further_calls hW s.pos
    rw [hfb] at hfu
    clear hfb hB h
    have cs_2 := (blk_cell BS.out 2).trans rfl
    go_enter Tryz.func110, Tryz.ntmps110
    go_wp2_with fail
    refine (hfu _ HF.out).mono ?_
    rintro e w5 ⟨rfl, hb⟩
    replace BS := Aside0.mk (below_blk BS.out hb)
    replace HF := Aside0.mk (HF.out.below' hb)
    replace HB := Aside0.mk (below_step HB.out hb)
    clear hb hfu cs_2
    obtain ⟨g3, hq⟩ : ∃ g3, w.heap.size = g3 := ⟨_, rfl⟩
    rw [hq] at BS ⊢
    clear hq
    have x0 := (blk_cell HF.out.frm 0).trans rfl
    have x1 := (blk_cell HF.out.frm 1).trans rfl
    have y0 := (blk_cell HF.out.run.blk 0).trans rfl
    have y1 := (blk_cell HF.out.run.blk 1).trans rfl
    have cs_2 := (blk_cell BS.out 2).trans rfl
    have cs_3 := (blk_cell BS.out 3).trans rfl
    have hfew := HF.out.run.few
    have hb0 := HF.out.b0
    have hb1 := HF.out.b1
    have hw1 : wrap64 ((N : Int) - base) = (N : Int) - base := by unfold wrap64; omega
    have hw2 : IntKind.i64.wrap ((N : Int) - base) = (N : Int) - base := by rw [wrapEq]; exact hw1
    have hw3 : wrap64 ((N : Int) - fb) = (N : Int) - fb := by have := HIN.out; unfold wrap64; omega
    have hw4 : IntKind.i64.wrap ((N : Int) - fb) = (N : Int) - fb := by rw [wrapEq]; exact hw3
    obtain ⟨xad, xcs, rfl, _, xK, xcc⟩ := Kd.C_get HC.out zFF s.fn (by omega) (by omega)
    have xK' := xK
    obtain ⟨xA0, xc0, xA1, xc1, xA3, xc3, xA4, xc4, xA5, xc5, rfl, xl0, xg0, xl1, xg1, xl3, xg3, xl4, xg4, xl5, xg5⟩ := kFF_open6 xK'
    have xx0 := (HF.out.run.below.cell (World.block_lt_of_cell? w0 _ (xcc 0 _ rfl))).trans (xcc 0 _ rfl)
    have xx1 := (HF.out.run.below.cell (World.block_lt_of_cell? w0 _ (xcc 1 _ rfl))).trans (xcc 1 _ rfl)
    have xx2 := (HF.out.run.below.cell (World.block_lt_of_cell? w0 _ (xcc 2 _ rfl))).trans (xcc 2 _ rfl)
    have xx3 := (HF.out.run.below.cell (World.block_lt_of_cell? w0 _ (xcc 3 _ rfl))).trans (xcc 3 _ rfl)
    have xx4 := (HF.out.run.below.cell (World.block_lt_of_cell? w0 _ (xcc 4 _ rfl))).trans (xcc 4 _ rfl)
    have xx5 := (HF.out.run.below.cell (World.block_lt_of_cell? w0 _ (xcc 5 _ rfl))).trans (xcc 5 _ rfl)
    rw [show (kFF).sz = 6 from rfl, Nat.add_zero] at xx0
    rw [show (kFF).sz = 6 from rfl, add_field _ _ 1 (by omega)] at xx1
    rw [show (kFF).sz = 6 from rfl, add_field _ _ 2 (by omega)] at xx2
    rw [show (kFF).sz = 6 from rfl, add_field _ _ 3 (by omega)] at xx3
    rw [show (kFF).sz = 6 from rfl, add_field _ _ 4 (by omega)] at xx4
    rw [show (kFF).sz = 6 from rfl, add_field _ _ 5 (by omega)] at xx5
    clear xcc
    generalize Yx0 : l.getD s.fn.toNat zFF = x at xx0 xx1 xx2 xx3 xx4 xx5 xK xl0 xg0 xl1 xg1 xl3 xg3 xl4 xg4 xl5 xg5
    have Yx := Aside0.mk Yx0; clear Yx0
    rw [Yx.out] at p2
    clear xl0 xg0 xl1 xg1 xl3 xg3 xl4 xg4 xl5 xg5 xK hfew hb0 hb1
    go_wp2_with fail
    have d2 : decide (x.cells ≤ (N : Int) - fb) = true := decide_eq_true (by omega)
    go_still_tail 46, (by kernel_rfl)
    change wpList _ _ _ _ _ (World.drew w5)
    have hmt := must_t (World.drew w5)
    have HD := Aside0.mk (below_drew1 (Below.refl w5.heap.size w5))
    replace BS := Aside0.mk (below_blk BS.out HD.out)
    replace HB := Aside0.mk (below_drew1 HB.out)
    replace HF := Aside0.mk (HF.out.below' HD.out)
    clear HD x0 x1 y0 y1 cs_2 cs_3 hw1 hw2 hw3 hw4 xx0 xx1 xx2 xx3 xx4 xx5
    generalize World.drew w5 = w6 at hmt HB HF BS ⊢
    go_wp2_with fail
    refine hmt.mono ?_
    rintro e w7 ⟨rfl, rfl⟩
    clear hmt
    have x0 := (blk_cell HF.out.frm 0).trans rfl
    have cs_3 := (blk_cell BS.out 3).trans rfl
    go_wp2_with fail
    go_still_tail 7, (by kernel_rfl)
    change wpList _ _ _ _ _ (World.drew w7)
    have HD := Aside0.mk (below_drew1 (Below.refl w7.heap.size w7))
    replace HB := Aside0.mk (below_drew1 HB.out)
    replace HF := Aside0.mk (HF.out.below' HD.out)
    clear HD x0 cs_3
    generalize World.drew w7 = w8 at HB HF ⊢
    have han := anew_calls l HOK.out HMX.out w0 g ma _ c N tr cn HC.out l.length s.fn fb m w8 HF.out.run hf0 hf1 hf1 HIN.out.1 (by rw [Yx.out]; omega)
    clear d0 d1 d2 p2
    go_wp2_with fail
    refine han.mono ?_
    rintro e w9 ⟨rfl, hR, ht⟩
    clear han
    have ht2 := ht.mono (T := fun b => b = g ∨ b = ma.block) (fun k _ hk => .inr hk)
    have hF9 := HF.out.turned hR ht2
    go_wp2_with fail
    go_end0
    exact ⟨⟨rfl, hF9⟩, T3_of ((Turned.of_below HB.out).trans ht2)⟩
   ·rw [show resetX l N base s.pos s.fn f m cn = (m, cn, none) from if_neg (fun hh => p2 (by have := hh.2.2; rw [hfb] at this; exact this))]
    clear p0 p1
    have HD2 := Aside0.mk p2
    have hB := below_alloc (Below.refl w.heap.size w) (.cells #[.int .i64 s.op, .string s.name, .int .i64 s.pos, .int .i64 s.fn, .slice sA4 (s.names).length sc4, .int .i64 s.e.f0, .string s.e.f1, .int .i64 s.e.f2, .slice sA8 (s.e.f3).length sc8, .slice sA9 (s.e.f4).length sc9, .slice sA6 (s.args).length sc6, .slice sA7 (s.arms).length sc7] 41)
    have BS := Aside0.mk (blk_new w (.cells #[.int .i64 s.op, .string s.name, .int .i64 s.pos, .int .i64 s.fn, .slice sA4 (s.names).length sc4, .int .i64 s.e.f0, .string s.e.f1, .int .i64 s.e.f2, .slice sA8 (s.e.f3).length sc8, .slice sA9 (s.e.f4).length sc9, .slice sA6 (s.args).length sc6, .slice sA7 (s.arms).length sc7] 41))
    have HF := Aside0.mk (h.below' hB)
    have HB := Aside0.mk hB
    have hfu := fun (W : World) (hW : FAt w0 W g ma A c l N m tr cn gf base mp f) => further_calls hW s.pos
    rw [hfb] at hfu
    clear hfb hB h
    have cs_2 := (blk_cell BS.out 2).trans rfl
    go_enter Tryz.func110, Tryz.ntmps110
    go_wp2_with fail
    refine (hfu _ HF.out).mono ?_
    rintro e w5 ⟨rfl, hb⟩
    replace BS := Aside0.mk (below_blk BS.out hb)
    replace HF := Aside0.mk (HF.out.below' hb)
    replace HB := Aside0.mk (below_step HB.out hb)
    clear hb hfu cs_2
    obtain ⟨g3, hq⟩ : ∃ g3, w.heap.size = g3 := ⟨_, rfl⟩
    rw [hq] at BS ⊢
    clear hq
    have x0 := (blk_cell HF.out.frm 0).trans rfl
    have x1 := (blk_cell HF.out.frm 1).trans rfl
    have y0 := (blk_cell HF.out.run.blk 0).trans rfl
    have y1 := (blk_cell HF.out.run.blk 1).trans rfl
    have cs_2 := (blk_cell BS.out 2).trans rfl
    have cs_3 := (blk_cell BS.out 3).trans rfl
    have hfew := HF.out.run.few
    have hb0 := HF.out.b0
    have hb1 := HF.out.b1
    have hw1 : wrap64 ((N : Int) - base) = (N : Int) - base := by unfold wrap64; omega
    have hw2 : IntKind.i64.wrap ((N : Int) - base) = (N : Int) - base := by rw [wrapEq]; exact hw1
    have hw3 : wrap64 ((N : Int) - fb) = (N : Int) - fb := by have := HIN.out; unfold wrap64; omega
    have hw4 : IntKind.i64.wrap ((N : Int) - fb) = (N : Int) - fb := by rw [wrapEq]; exact hw3
    obtain ⟨xad, xcs, rfl, _, xK, xcc⟩ := Kd.C_get HC.out zFF s.fn (by omega) (by omega)
    have xK' := xK
    obtain ⟨xA0, xc0, xA1, xc1, xA3, xc3, xA4, xc4, xA5, xc5, rfl, xl0, xg0, xl1, xg1, xl3, xg3, xl4, xg4, xl5, xg5⟩ := kFF_open6 xK'
    have xx0 := (HF.out.run.below.cell (World.block_lt_of_cell? w0 _ (xcc 0 _ rfl))).trans (xcc 0 _ rfl)
    have xx1 := (HF.out.run.below.cell (World.block_lt_of_cell? w0 _ (xcc 1 _ rfl))).trans (xcc 1 _ rfl)
    have xx2 := (HF.out.run.below.cell (World.block_lt_of_cell? w0 _ (xcc 2 _ rfl))).trans (xcc 2 _ rfl)
    have xx3 := (HF.out.run.below.cell (World.block_lt_of_cell? w0 _ (xcc 3 _ rfl))).trans (xcc 3 _ rfl)
    have xx4 := (HF.out.run.below.cell (World.block_lt_of_cell? w0 _ (xcc 4 _ rfl))).trans (xcc 4 _ rfl)
    have xx5 := (HF.out.run.below.cell (World.block_lt_of_cell? w0 _ (xcc 5 _ rfl))).trans (xcc 5 _ rfl)
    rw [show (kFF).sz = 6 from rfl, Nat.add_zero] at xx0
    rw [show (kFF).sz = 6 from rfl, add_field _ _ 1 (by omega)] at xx1
    rw [show (kFF).sz = 6 from rfl, add_field _ _ 2 (by omega)] at xx2
    rw [show (kFF).sz = 6 from rfl, add_field _ _ 3 (by omega)] at xx3
    rw [show (kFF).sz = 6 from rfl, add_field _ _ 4 (by omega)] at xx4
    rw [show (kFF).sz = 6 from rfl, add_field _ _ 5 (by omega)] at xx5
    clear xcc
    generalize Yx0 : l.getD s.fn.toNat zFF = x at xx0 xx1 xx2 xx3 xx4 xx5 xK xl0 xg0 xl1 xg1 xl3 xg3 xl4 xg4 xl5 xg5
    have Yx := Aside0.mk Yx0; clear Yx0
    rw [Yx.out] at p2
    clear xl0 xg0 xl1 xg1 xl3 xg3 xl4 xg4 xl5 xg5 xK hfew hb0 hb1
    go_wp2_with fail
    have d2 : decide (x.cells ≤ (N : Int) - fb) = false := decide_eq_false (by omega)
    go_still_tail 46, (by kernel_rfl)
    change wpList _ _ _ _ _ (World.drew w5)
    have hmt := must_f (World.drew w5)
    replace HB := Aside0.mk (below_drew1 HB.out)
    replace HF := Aside0.mk (HF.out.below' (below_drew1 (Below.refl _ _)))
    clear x0 x1 y0 y1 cs_2 cs_3 hw1 hw2 hw3 hw4 xx0 xx1 xx2 xx3 xx4 xx5
    generalize World.drew w5 = w6 at hmt HB HF ⊢
    go_wp2_with fail
    refine hmt.mono ?_
    rintro e w7 ⟨rfl, rfl⟩
    clear hmt
    go_wp2_with fail
    exact ⟨rfl, ⟨rfl, HF.out.run⟩, T3_below HB.out⟩
  ·have d1 : decide (s.pos ≤ (N : Int) - base) = false := decide_eq_false p1
   rw [show resetX l N base s.pos s.fn f m cn = (m, cn, none) from if_neg (fun hh => p1 hh.2.1)]
   clear p0 p1
   skip
   have hB := below_alloc (Below.refl w.heap.size w) (.cells #[.int .i64 s.op, .string s.name, .int .i64 s.pos, .int .i64 s.fn, .slice sA4 (s.names).length sc4, .int .i64 s.e.f0, .string s.e.f1, .int .i64 s.e.f2, .slice sA8 (s.e.f3).length sc8, .slice sA9 (s.e.f4).length sc9, .slice sA6 (s.args).length sc6, .slice sA7 (s.arms).length sc7] 41)
   have BS := Aside0.mk (blk_new w (.cells #[.int .i64 s.op, .string s.name, .int .i64 s.pos, .int .i64 s.fn, .slice sA4 (s.names).length sc4, .int .i64 s.e.f0, .string s.e.f1, .int .i64 s.e.f2, .slice sA8 (s.e.f3).length sc8, .slice sA9 (s.e.f4).length sc9, .slice sA6 (s.args).length sc6, .slice sA7 (s.arms).length sc7] 41))
   have HF := Aside0.mk (h.below' hB)
   have HB := Aside0.mk hB
   have hfu := fun (W : World) (hW : FAt w0 W g ma A c l N m tr cn gf base mp f) => further_calls hW s.pos
   rw [hfb] at hfu
   clear hfb hB h
   have cs_2 := (blk_cell BS.out 2).trans rfl
   go_enter Tryz.func110, Tryz.ntmps110
   go_wp2_with fail
   refine (hfu _ HF.out).mono ?_
   rintro e w5 ⟨rfl, hb⟩
   replace BS := Aside0.mk (below_blk BS.out hb)
   replace HF := Aside0.mk (HF.out.below' hb)
   replace HB := Aside0.mk (below_step HB.out hb)
   clear hb hfu cs_2
   obtain ⟨g3, hq⟩ : ∃ g3, w.heap.size = g3 := ⟨_, rfl⟩
   rw [hq] at BS ⊢
   clear hq
   have x0 := (blk_cell HF.out.frm 0).trans rfl
   have x1 := (blk_cell HF.out.frm 1).trans rfl
   have y0 := (blk_cell HF.out.run.blk 0).trans rfl
   have y1 := (blk_cell HF.out.run.blk 1).trans rfl
   have cs_2 := (blk_cell BS.out 2).trans rfl
   have cs_3 := (blk_cell BS.out 3).trans rfl
   have hfew := HF.out.run.few
   have hb0 := HF.out.b0
   have hb1 := HF.out.b1
   have hw1 : wrap64 ((N : Int) - base) = (N : Int) - base := by unfold wrap64; omega
   have hw2 : IntKind.i64.wrap ((N : Int) - base) = (N : Int) - base := by rw [wrapEq]; exact hw1
   have hw3 : wrap64 ((N : Int) - fb) = (N : Int) - fb := by have := HIN.out; unfold wrap64; omega
   have hw4 : IntKind.i64.wrap ((N : Int) - fb) = (N : Int) - fb := by rw [wrapEq]; exact hw3
   obtain ⟨xad, xcs, rfl, _, xK, xcc⟩ := Kd.C_get HC.out zFF s.fn (by omega) (by omega)
   have xK' := xK
   obtain ⟨xA0, xc0, xA1, xc1, xA3, xc3, xA4, xc4, xA5, xc5, rfl, xl0, xg0, xl1, xg1, xl3, xg3, xl4, xg4, xl5, xg5⟩ := kFF_open6 xK'
   have xx0 := (HF.out.run.below.cell (World.block_lt_of_cell? w0 _ (xcc 0 _ rfl))).trans (xcc 0 _ rfl)
   have xx1 := (HF.out.run.below.cell (World.block_lt_of_cell? w0 _ (xcc 1 _ rfl))).trans (xcc 1 _ rfl)
   have xx2 := (HF.out.run.below.cell (World.block_lt_of_cell? w0 _ (xcc 2 _ rfl))).trans (xcc 2 _ rfl)
   have xx3 := (HF.out.run.below.cell (World.block_lt_of_cell? w0 _ (xcc 3 _ rfl))).trans (xcc 3 _ rfl)
   have xx4 := (HF.out.run.below.cell (World.block_lt_of_cell? w0 _ (xcc 4 _ rfl))).trans (xcc 4 _ rfl)
   have xx5 := (HF.out.run.below.cell (World.block_lt_of_cell? w0 _ (xcc 5 _ rfl))).trans (xcc 5 _ rfl)
   rw [show (kFF).sz = 6 from rfl, Nat.add_zero] at xx0
   rw [show (kFF).sz = 6 from rfl, add_field _ _ 1 (by omega)] at xx1
   rw [show (kFF).sz = 6 from rfl, add_field _ _ 2 (by omega)] at xx2
   rw [show (kFF).sz = 6 from rfl, add_field _ _ 3 (by omega)] at xx3
   rw [show (kFF).sz = 6 from rfl, add_field _ _ 4 (by omega)] at xx4
   rw [show (kFF).sz = 6 from rfl, add_field _ _ 5 (by omega)] at xx5
   clear xcc
   generalize Yx0 : l.getD s.fn.toNat zFF = x at xx0 xx1 xx2 xx3 xx4 xx5 xK xl0 xg0 xl1 xg1 xl3 xg3 xl4 xg4 xl5 xg5
   have Yx := Aside0.mk Yx0; clear Yx0
   skip
   clear xl0 xg0 xl1 xg1 xl3 xg3 xl4 xg4 xl5 xg5 xK hfew hb0 hb1
   go_wp2_with fail
   go_still_tail 46, (by kernel_rfl)
   change wpList _ _ _ _ _ (World.drew w5)
   have hmt := must_f (World.drew w5)
   replace HB := Aside0.mk (below_drew1 HB.out)
   replace HF := Aside0.mk (HF.out.below' (below_drew1 (Below.refl _ _)))
   clear x0 x1 y0 y1 cs_2 cs_3 hw1 hw2 hw3 hw4 xx0 xx1 xx2 xx3 xx4 xx5
   generalize World.drew w5 = w6 at hmt HB HF ⊢
   go_wp2_with fail
   refine hmt.mono ?_
   rintro e w7 ⟨rfl, rfl⟩
   clear hmt
   go_wp2_with fail
   exact ⟨rfl, ⟨rfl, HF.out.run⟩, T3_below HB.out⟩
 ·have d0 : decide (s.pos ≥ 0) = false := decide_eq_false p0
  rw [show resetX l N base s.pos s.fn f m cn = (m, cn, none) from if_neg (fun hh => p0 hh.1)]
  clear p0
  skip
  have hB := below_alloc (Below.refl w.heap.size w) (.cells #[.int .i64 s.op, .string s.name, .int .i64 s.pos, .int .i64 s.fn, .slice sA4 (s.names).length sc4, .int .i64 s.e.f0, .string s.e.f1, .int .i64 s.e.f2, .slice sA8 (s.e.f3).length sc8, .slice sA9 (s.e.f4).length sc9, .slice sA6 (s.args).length sc6, .slice sA7 (s.arms).length sc7] 41)
  have BS := Aside0.mk (blk_new w (.cells #[.int .i64 s.op, .string s.name, .int .i64 s.pos, .int .i64 s.fn, .slice sA4 (s.names).length sc4, .int .i64 s.e.f0, .string s.e.f1, .int .i64 s.e.f2, .slice sA8 (s.e.f3).length sc8, .slice sA9 (s.e.f4).length sc9, .slice sA6 (s.args).length sc6, .slice sA7 (s.arms).length sc7] 41))
  have HF := Aside0.mk (h.below' hB)
  have HB := Aside0.mk hB
  have hfu := fun (W : World) (hW : FAt w0 W g ma A c l N m tr cn gf base mp f) => further_calls hW s.pos
  rw [hfb] at hfu
  clear hfb hB h
  have cs_2 := (blk_cell BS.out 2).trans rfl
  go_enter Tryz.func110, Tryz.ntmps110
  go_wp2_with fail
  refine (hfu _ HF.out).mono ?_
  rintro e w5 ⟨rfl, hb⟩
  replace BS := Aside0.mk (below_blk BS.out hb)
  replace HF := Aside0.mk (HF.out.below' hb)
  replace HB := Aside0.mk (below_step HB.out hb)
  clear hb hfu cs_2
  obtain ⟨g3, hq⟩ : ∃ g3, w.heap.size = g3 := ⟨_, rfl⟩
  rw [hq] at BS ⊢
  clear hq
  have x0 := (blk_cell HF.out.frm 0).trans rfl
  have x1 := (blk_cell HF.out.frm 1).trans rfl
  have y0 := (blk_cell HF.out.run.blk 0).trans rfl
  have y1 := (blk_cell HF.out.run.blk 1).trans rfl
  have cs_2 := (blk_cell BS.out 2).trans rfl
  have cs_3 := (blk_cell BS.out 3).trans rfl
  have hfew := HF.out.run.few
  have hb0 := HF.out.b0
  have hb1 := HF.out.b1
  have hw1 : wrap64 ((N : Int) - base) = (N : Int) - base := by unfold wrap64; omega
  have hw2 : IntKind.i64.wrap ((N : Int) - base) = (N : Int) - base := by rw [wrapEq]; exact hw1
  have hw3 : wrap64 ((N : Int) - fb) = (N : Int) - fb := by have := HIN.out; unfold wrap64; omega
  have hw4 : IntKind.i64.wrap ((N : Int) - fb) = (N : Int) - fb := by rw [wrapEq]; exact hw3
  obtain ⟨xad, xcs, rfl, _, xK, xcc⟩ := Kd.C_get HC.out zFF s.fn (by omega) (by omega)
  have xK' := xK
  obtain ⟨xA0, xc0, xA1, xc1, xA3, xc3, xA4, xc4, xA5, xc5, rfl, xl0, xg0, xl1, xg1, xl3, xg3, xl4, xg4, xl5, xg5⟩ := kFF_open6 xK'
  have xx0 := (HF.out.run.below.cell (World.block_lt_of_cell? w0 _ (xcc 0 _ rfl))).trans (xcc 0 _ rfl)
  have xx1 := (HF.out.run.below.cell (World.block_lt_of_cell? w0 _ (xcc 1 _ rfl))).trans (xcc 1 _ rfl)
  have xx2 := (HF.out.run.below.cell (World.block_lt_of_cell? w0 _ (xcc 2 _ rfl))).trans (xcc 2 _ rfl)
  have xx3 := (HF.out.run.below.cell (World.block_lt_of_cell? w0 _ (xcc 3 _ rfl))).trans (xcc 3 _ rfl)
  have xx4 := (HF.out.run.below.cell (World.block_lt_of_cell? w0 _ (xcc 4 _ rfl))).trans (xcc 4 _ rfl)
  have xx5 := (HF.out.run.below.cell (World.block_lt_of_cell? w0 _ (xcc 5 _ rfl))).trans (xcc 5 _ rfl)
  rw [show (kFF).sz = 6 from rfl, Nat.add_zero] at xx0
  rw [show (kFF).sz = 6 from rfl, add_field _ _ 1 (by omega)] at xx1
  rw [show (kFF).sz = 6 from rfl, add_field _ _ 2 (by omega)] at xx2
  rw [show (kFF).sz = 6 from rfl, add_field _ _ 3 (by omega)] at xx3
  rw [show (kFF).sz = 6 from rfl, add_field _ _ 4 (by omega)] at xx4
  rw [show (kFF).sz = 6 from rfl, add_field _ _ 5 (by omega)] at xx5
  clear xcc
  generalize Yx0 : l.getD s.fn.toNat zFF = x at xx0 xx1 xx2 xx3 xx4 xx5 xK xl0 xg0 xl1 xg1 xl3 xg3 xl4 xg4 xl5 xg5
  have Yx := Aside0.mk Yx0; clear Yx0
  skip
  clear xl0 xg0 xl1 xg1 xl3 xg3 xl4 xg4 xl5 xg5 xK hfew hb0 hb1
  go_wp2_with fail
  go_still_tail 46, (by kernel_rfl)
  change wpList _ _ _ _ _ (World.drew w5)
  have hmt := must_f (World.drew w5)
  replace HB := Aside0.mk (below_drew1 HB.out)
  replace HF := Aside0.mk (HF.out.below' (below_drew1 (Below.refl _ _)))
  clear x0 x1 y0 y1 cs_2 cs_3 hw1 hw2 hw3 hw4 xx0 xx1 xx2 xx3 xx4 xx5
  generalize World.drew w5 = w6 at hmt HB HF ⊢
  go_wp2_with fail
  refine hmt.mono ?_
  rintro e w7 ⟨rfl, rfl⟩
  clear hmt
  go_wp2_with fail
  exact ⟨rfl, ⟨rfl, HF.out.run⟩, T3_below HB.out⟩
end
end Go.Proofs.YticndoihkfbpoaaGreatDoor
