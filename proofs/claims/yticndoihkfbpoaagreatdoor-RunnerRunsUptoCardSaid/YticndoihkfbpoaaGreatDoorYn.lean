/- The reference's frame: an expression's value. -/
import Derived.Test.YticndoihkfbpoaaGreatDoorYm
namespace Go.Proofs.YticndoihkfbpoaaGreatDoor
open Go Go.RowKit Go.Lib Go.Proofs.YticndoihkfbpoaaGreatDoorW.PrintWords Go.Proofs.YticndoihkfbpoaaGreatDoor.PScope
set_option maxRecDepth 100000
set_option linter.unusedSimpArgs false
set_option linter.unusedVariables false
attribute [local irreducible] wpStill
structure MarkT (g gf : Nat) (base : Int) (b0 b1 : Bool) (w w' : World) : Prop where
 t : Turned (fun b => b = gf) w w'
 k : ∀ v, w.heap[gf]? = some (.cells #[.pointer (some ⟨g, 0, none⟩), .int .i64 base, v, .bool b0] 132 (0, 0)) → w'.heap[gf]? = some (.cells #[.pointer (some ⟨g, 0, none⟩), .int .i64 base, v, .bool b1] 132 (0, 0))
section
variable {g gf : Nat} {base : Int} {b0 b1 b2 : Bool} {w w' w5 w6 : World}
theorem MarkT.below (h : Below w.heap.size w w') : MarkT g gf base b0 b0 w w' := ⟨Turned.of_below h, fun v hv => below_blk hv h⟩
theorem MarkT.trans (h : MarkT g gf base b0 b1 w w5) (k : MarkT g gf base b1 b2 w5 w6) : MarkT g gf base b0 b2 w w6 := ⟨h.t.trans k.t, fun v hv => k.k v (h.k v hv)⟩
theorem MarkT.step (h : MarkT g gf base b0 b1 w w5) (k : Below w5.heap.size w5 w6) : MarkT g gf base b0 b1 w w6 := h.trans (MarkT.below k)
theorem MarkT.fresh {j : Nat} (h : MarkT g gf base b0 b1 w w5) (hg : w5.grownBy w6 (some j)) (hj : w.heap.size ≤ j) (hn : gf ≠ j) : MarkT g gf base b0 b1 w w6 :=
 ⟨h.t.trans_fresh (Turned.of_grown (S := fun b => b = j) hg (by rintro k ⟨⟩; rfl)) (fun k hk => .inr (by rw [hk]; exact hj)), fun v hv => blk_put_far (h.k v hv) hg hn⟩
theorem MarkT.mark (h : MarkT g gf base b0 b1 w w5) : MarkT g gf base b0 true w (w5.setCell ⟨gf, 3, none⟩ (.bool true)) :=
 ⟨h.t.set (p := ⟨gf, 3, none⟩) rfl _, fun v hv => blk_put (h.k v hv) 3 (.bool true) rfl⟩
theorem MarkT.blk {j : Nat} {o : Obj} (h : MarkT g gf base b0 b1 w w5) (hb : w.heap[j]? = some o) (hn : j ≠ gf) : w5.heap[j]? = some o := h.t.blk hb hn
theorem start2 (w : World) (o1 o2 : Obj) : ((w.alloc o1).alloc o2).heap[w.heap.size]? = some o1 ∧ ((w.alloc o1).alloc o2).heap[w.heap.size + 1]? = some o2 ∧ Below w.heap.size w ((w.alloc o1).alloc o2) :=
 ⟨blk_alloc (blk_new w o1) o2, blk_n2 w o1 o2, below_alloc (below_alloc (Below.refl _ w) _) _⟩
end
section
variable {w0 w w' : World} {g : Nat} {ma : Addr} {A : Option Addr} {c : Nat} {l : List FF} {N : Nat} {m : List Cl} {tr : Bool} {cn : Int} {gf : Nat} {base : Int} {bv q : Nat} {f : Vars} {bad b1 : Bool}
theorem FAtR.marked (h : FAtR w0 w g ma A c l N m tr cn gf base bv q f bad) (hm : MarkT g gf base bad b1 w w') : FAtR w0 w' g ma A c l N m tr cn gf base bv q f b1 := by
 obtain ⟨v, vs, h1, h2, h3, h4⟩ := h.frm
 obtain ⟨n1, n2⟩ := h.ne
 obtain ⟨l1, l2, l3⟩ := h.lt
 refine ⟨h.run.moved hm.t (fun e => n1 e.symm) (fun e => n2 e.symm) (fun k e => by rw [e]; exact h.hf), ⟨v, vs, hm.k v h1, ?_, h3, h4⟩, h.b0, h.b1, h.hf, h.lt, h.ne, h.inm, h.inv, Nat.le_trans h.le hm.t.size⟩
 exact Kd.R_mono (Kd.R_step (Kd.R_mono (Kd.R_bound h2) (fun k hk => (hk.2.1 : bv ≤ k))) (fun k hk hlt => hm.t.block k hlt (fun e => by omega))) (fun _ _ => trivial)
def RValSays (w0 : World) (g : Nat) (ma : Addr) (A : Option Addr) (c : Nat) (l : List FF) (N : Nat) (m : List Cl) (tr : Bool) (cn : Int) (gf : Nat) (base : Int) (bv q : Nat) (f : Vars) (x : S38) : Prop :=
 ∀ (w : World) (cs : List Value) (bad : Bool), FAtR w0 w g ma A c l N m tr cn gf base bv q f bad → kE.K w0 x cs → Calls Tryz.prog 113 #[.pointer (some ⟨gf, 0, none⟩), .agg cs.toArray] w fun e w' => e = .returned (encR (valN m base f x)) ∧ MarkT g gf base bad (bad || valT m base f x) w w'
theorem rv_at {x : S38} (h : RValSays w0 g ma A c l N m tr cn gf base bv q f x) {v : Int} {o : Bool} (hv : valN m base f x = (v, o)) (cs : List Value) (hK : kE.K w0 x cs) (bad : Bool) (W : World) (hF : FAtR w0 W g ma A c l N m tr cn gf base bv q f bad) :
  Calls Tryz.prog 113 #[.pointer (some ⟨gf, 0, none⟩), .agg cs.toArray] W fun e w' => e = .returned (.agg #[.bool o, .int .i64 v]) ∧ MarkT g gf base bad (bad || valT m base f x) W w' := by
 have := h W cs bad hF hK
 rw [hv] at this
 exact this
theorem unV_err {s : ByteArray} {a : Int} (h : (unV s a).2 ≠ 0) : (unV s a).1 = 0 := by
 unfold unV at h ⊢
 split
 ·rename_i h1; rw [if_pos h1] at h; exact absurd rfl h
 ·rename_i h1
  rw [if_neg h1] at h
  split
  ·rename_i h2; rw [if_pos h2] at h; exact absurd rfl h
  ·rfl
theorem binV_err {s : ByteArray} {a b : Int} (h : (binV s a b).2 ≠ 0) : (binV s a b).1 = 0 := by
 unfold binV at h ⊢
 split
 ·rfl
 ·rename_i n h1
  rw [h1] at h
  exact absurd rfl h
def unC (s : ByteArray) (x : Cl) : Cl := if x.2 = true ∧ (unV s x.1).2 = 0 then ((unV s x.1).1, true) else nilC
def binC (s : ByteArray) (x y : Cl) : Cl := if x.2 = true ∧ y.2 = true ∧ (binV s x.1 y.1).2 = 0 then ((binV s x.1 y.1).1, true) else nilC
theorem un_NT (nm : ByteArray) (nn : Int) (xs : List ByteArray) (a : S38) : valN m base f ⟨5, nm, nn, xs, [a]⟩ = unC nm (valN m base f a) ∧ valT m base f ⟨5, nm, nn, xs, [a]⟩ = valT m base f a := by
 unfold valN valT unC
 rw [valE_un]
 cases valE m base f a with
 | none => exact ⟨rfl, rfl⟩
 | some v =>
  obtain ⟨v, o⟩ := v
  refine ⟨?_, rfl⟩
  simp only [Option.map_some, Option.getD_some]
  cases o with
  | false => rfl
  | true =>
   by_cases h : (unV nm v).2 = 0
   ·rw [if_pos rfl, if_pos ⟨rfl, h⟩, h]; rfl
   ·rw [if_pos rfl, if_neg (fun e => h e.2), unV_err h, beq_eq_false_iff_ne.2 h]; rfl
theorem bin_NT (nm : ByteArray) (nn : Int) (xs : List ByteArray) (a b : S38) : valN m base f ⟨6, nm, nn, xs, [a, b]⟩ = binC nm (valN m base f a) (valN m base f b) ∧ valT m base f ⟨6, nm, nn, xs, [a, b]⟩ = (valT m base f a || valT m base f b) := by
 unfold valN valT binC
 rw [valE_bin]
 cases valE m base f a with
 | none => exact ⟨(if_neg (fun e => Bool.false_ne_true e.1)).symm, rfl⟩
 | some v =>
  obtain ⟨v, o⟩ := v
  cases valE m base f b with
  | none => exact ⟨(if_neg (fun e => Bool.false_ne_true e.2.1)).symm, rfl⟩
  | some u =>
   obtain ⟨u, p⟩ := u
   refine ⟨?_, rfl⟩
   simp only [Option.bind_some, Option.map_some, Option.getD_some]
   cases o with
   | false => rfl
   | true =>
    cases p with
    | false => rfl
    | true =>
     by_cases h : (binV nm v u).2 = 0
     ·rw [if_pos (show (true && true) = true from rfl), if_pos ⟨rfl, rfl, h⟩, h]; rfl
     ·rw [if_pos (show (true && true) = true from rfl), if_neg (fun e => h e.2.2), binV_err h, beq_eq_false_iff_ne.2 h]; rfl
theorem if_off (nm : ByteArray) (nn : Int) (xs : List ByteArray) (k a b : S38) (h : (valN m base f k).2 = false) : valN m base f ⟨7, nm, nn, xs, [k, a, b]⟩ = nilC ∧ valT m base f ⟨7, nm, nn, xs, [k, a, b]⟩ = valT m base f k := by
 unfold valN valT at *
 rw [valE_if]
 cases hv : valE m base f k with
 | none => exact ⟨rfl, rfl⟩
 | some v =>
  obtain ⟨v, o⟩ := v
  rw [hv] at h
  obtain rfl : o = false := h
  exact ⟨rfl, rfl⟩
theorem if_on (nm : ByteArray) (nn : Int) (xs : List ByteArray) (k a b : S38) (h : (valN m base f k).2 = true) : valN m base f ⟨7, nm, nn, xs, [k, a, b]⟩ = valN m base f (if (valN m base f k).1 = 0 then b else a) ∧ valT m base f ⟨7, nm, nn, xs, [k, a, b]⟩ = (valT m base f k || valT m base f (if (valN m base f k).1 = 0 then b else a)) := by
 unfold valN valT at *
 rw [valE_if]
 cases hv : valE m base f k with
 | none => rw [hv] at h; cases h
 | some v =>
  obtain ⟨v, o⟩ := v
  rw [hv] at h
  obtain rfl : o = true := h
  simp only [Option.bind_some, Option.getD_some, if_true, Option.isNone_some, Bool.false_or]
  split <;> exact ⟨rfl, rfl⟩
theorem mis_E (op : Int) (nm : ByteArray) (nn : Int) (xs : List ByteArray) (kids : List S38) (h1 : ¬ (op = 1 ∧ kids.length = 0)) (h4 : ¬ (op = 4 ∧ kids.length = 0)) (h16 : ¬ (op = 16 ∧ kids.length = 0)) (h5 : ¬ (op = 5 ∧ kids.length = 1)) (h6 : ¬ (op = 6 ∧ kids.length = 2)) (h7 : ¬ (op = 7 ∧ kids.length = 3)) : valE m base f ⟨op, nm, nn, xs, kids⟩ = some nilC := by
 match kids, h1, h4, h16, h5, h6, h7 with
 | [], h1, h4, h16, _, _, _ => exact valE_other0 _ _ _ _ _ _ _ (fun e => h1 ⟨e, rfl⟩) (fun e => h4 ⟨e, rfl⟩) (fun e => h16 ⟨e, rfl⟩)
 | [a], _, _, _, h5, _, _ => exact valE_other1 _ _ _ _ _ _ _ _ (fun e => h5 ⟨e, rfl⟩)
 | [a, b], _, _, _, _, h6, _ => exact valE_other2 _ _ _ _ _ _ _ _ _ (fun e => h6 ⟨e, rfl⟩)
 | [k, a, b], _, _, _, _, _, h7 => exact valE_other3 _ _ _ _ _ _ _ _ _ _ (fun e => h7 ⟨e, rfl⟩)
 | _ :: _ :: _ :: _ :: _, _, _, _, _, _, _ => exact valE_many _ _ _ _ _ _ _ _ (by simp)
set_option maxHeartbeats 2000000 in
theorem rvalue_int (nn : Int) (nm : ByteArray) (xs : List ByteArray)  : RValSays w0 g ma A c l N m tr cn gf base bv q f ⟨1, nm, nn, xs, []⟩ := by
 intro w cs bad hF hK
 obtain ⟨A3, c3, A4, c4, rfl, g4⟩ := kE_open' hK
 clear hK
 rw [show valN m base f ⟨1, nm, nn, xs, []⟩ = (nn, true) by unfold valN; rw [valE_int]; rfl, show valT m base f ⟨1, nm, nn, xs, []⟩ = false by unfold valT; rw [valE_int]; rfl, Bool.or_false]
 have HF := Aside0.mk hF; have G4 := Aside0.mk g4
 have NG := Aside0.mk (show gf < w.heap.size from hF.lts.1)
 clear hF g4
 go_enter Tryz.func113, Tryz.ntmps113
 go_upto_region 1 with fail
 have hs := start2 w (.cells #[.int .i64 1, .string nm, .int .i64 nn, .slice A3 xs.length c3, .slice A4 0 c4] 38) (.cells #[.bool false, .int .i64 0] 93)
 have HL := Aside0.mk (show w.heap.size ≤ w.heap.size + 1 ∧ gf ≠ w.heap.size + 1 from by have := NG.out; omega)
 have N3 := Aside0.mk (show w.heap.size ≠ gf from by have := NG.out; omega)
 generalize (w.alloc (.cells #[.int .i64 1, .string nm, .int .i64 nn, .slice A3 xs.length c3, .slice A4 0 c4] 38)).alloc (.cells #[.bool false, .int .i64 0] 93) = w5 at hs ⊢
 obtain ⟨b3, b4, hb⟩ := hs
 have HM := Aside0.mk (MarkT.below (g := g) (gf := gf) (base := base) (b0 := bad) hb)
 replace HF := Aside0.mk (HF.out.marked HM.out)
 clear hb
 generalize w.heap.size + 1 = g4 at b4 HL ⊢
 obtain ⟨g3, hq⟩ : ∃ g3, w.heap.size = g3 := ⟨_, rfl⟩
 rw [hq] at b3 N3 ⊢
 clear hq
 have B3 := Aside0.mk b3; have B4 := Aside0.mk b4; clear b3 b4
 have c3_0 := (blk_cell B3.out 0).trans rfl
 have c3_1 := (blk_cell B3.out 1).trans rfl
 have c3_2 := (blk_cell B3.out 2).trans rfl
 have c3_3 := (blk_cell B3.out 3).trans rfl
 have c3_4 := (blk_cell B3.out 4).trans rfl
 go_wp2_with ((with_reducible refine gate_store (t := 93) (p := 4) rfl ?_); refine store_whole rfl rfl 93 _ _ rfl g4 _ 93 rfl B4.out _ rfl rfl rfl (by simp [Value.oneCell']) ?_; intro wz hb6 hg6; replace HM := Aside0.mk (HM.out.fresh hg6 HL.out.1 HL.out.2); replace B4 := Aside0.mk hb6; clear hb6 hg6)
 (try simp only [Exit.inBlock, Exit.then])
 refine bodyPost_ret (results_cell_row rfl _ _ g4 93 _ (0, 0) _ rfl B4.out Tryz.underlying93 rfl (by kernel_rfl)) rfl ?_
 exact ⟨rfl, HM.out⟩
set_option maxHeartbeats 2000000 in
theorem rvalue_var (nn : Int) (nm : ByteArray) (xs : List ByteArray)  : RValSays w0 g ma A c l N m tr cn gf base bv q f ⟨4, nm, nn, xs, []⟩ := by
 intro w cs bad hF hK
 obtain ⟨A3, c3, A4, c4, rfl, g4⟩ := kE_open' hK
 clear hK
 rw [show valN m base f ⟨4, nm, nn, xs, []⟩ = vget f nm by unfold valN; rw [valE_var]; rfl, show valT m base f ⟨4, nm, nn, xs, []⟩ = false by unfold valT; rw [valE_var]; rfl, Bool.or_false]
 obtain ⟨⟨v, o⟩, hv⟩ : ∃ c, vget f nm = c := ⟨_, rfl⟩
 rw [hv]
 have HF := Aside0.mk hF; have G4 := Aside0.mk g4
 have NG := Aside0.mk (show gf < w.heap.size from hF.lts.1)
 clear hF g4
 go_enter Tryz.func113, Tryz.ntmps113
 go_upto_region 1 with fail
 have hs := start2 w (.cells #[.int .i64 4, .string nm, .int .i64 nn, .slice A3 xs.length c3, .slice A4 0 c4] 38) (.cells #[.bool false, .int .i64 0] 93)
 have HL := Aside0.mk (show w.heap.size ≤ w.heap.size + 1 ∧ gf ≠ w.heap.size + 1 from by have := NG.out; omega)
 have N3 := Aside0.mk (show w.heap.size ≠ gf from by have := NG.out; omega)
 generalize (w.alloc (.cells #[.int .i64 4, .string nm, .int .i64 nn, .slice A3 xs.length c3, .slice A4 0 c4] 38)).alloc (.cells #[.bool false, .int .i64 0] 93) = w5 at hs ⊢
 obtain ⟨b3, b4, hb⟩ := hs
 have HM := Aside0.mk (MarkT.below (g := g) (gf := gf) (base := base) (b0 := bad) hb)
 replace HF := Aside0.mk (HF.out.marked HM.out)
 clear hb
 generalize w.heap.size + 1 = g4 at b4 HL ⊢
 obtain ⟨g3, hq⟩ : ∃ g3, w.heap.size = g3 := ⟨_, rfl⟩
 rw [hq] at b3 N3 ⊢
 clear hq
 have B3 := Aside0.mk b3; have B4 := Aside0.mk b4; clear b3 b4
 have c3_0 := (blk_cell B3.out 0).trans rfl
 have c3_1 := (blk_cell B3.out 1).trans rfl
 have c3_2 := (blk_cell B3.out 2).trans rfl
 have c3_3 := (blk_cell B3.out 3).trans rfl
 have c3_4 := (blk_cell B3.out 4).trans rfl
 have hg := get_calls HF.out nm
 rw [hv] at hg
 unfold encR at hg
 simp only [] at hg
 go_wp2_with fail
 refine hg.mono ?_
 rintro e w6 ⟨rfl, hb⟩
 replace HM := Aside0.mk (HM.out.step hb)
 replace B4 := Aside0.mk (below_blk B4.out hb)
 clear hb hg hv c3_0 c3_1 c3_2 c3_3 c3_4
 go_wp2_with ((with_reducible refine gate_store (t := 93) (p := 4) rfl ?_); refine store_whole rfl rfl 93 _ _ rfl g4 _ 93 rfl B4.out _ rfl rfl rfl (by simp [Value.oneCell']) ?_; intro wz hb6 hg6; replace HM := Aside0.mk (HM.out.fresh hg6 HL.out.1 HL.out.2); replace B4 := Aside0.mk hb6; clear hb6 hg6)
 (try simp only [Exit.inBlock, Exit.then])
 refine bodyPost_ret (results_cell_row rfl _ _ g4 93 _ (0, 0) _ rfl B4.out Tryz.underlying93 rfl (by kernel_rfl)) rfl ?_
 exact ⟨rfl, HM.out⟩
set_option maxHeartbeats 2000000 in
theorem rvalue_mem (nn : Int) (nm : ByteArray) (xs : List ByteArray)  : RValSays w0 g ma A c l N m tr cn gf base bv q f ⟨16, nm, nn, xs, []⟩ := by
 intro w cs bad hF hK
 obtain ⟨A3, c3, A4, c4, rfl, g4⟩ := kE_open' hK
 clear hK
 by_cases hc : 0 ≤ nn ∧ nn < (m.length : Int) - base
 ·obtain ⟨⟨v, o⟩, hv⟩ : ∃ c, m.getD (base + nn).toNat nilC = c := ⟨_, rfl⟩
  have hE : valE m base f ⟨16, nm, nn, xs, []⟩ = some (v, o) := by rw [valE_mem, ← hv]; exact if_pos hc
  rw [show valN m base f ⟨16, nm, nn, xs, []⟩ = (v, o) by unfold valN; rw [hE]; rfl, show valT m base f ⟨16, nm, nn, xs, []⟩ = false by unfold valT; rw [hE]; rfl, Bool.or_false]
  have hb0 := hF.b0
  have hln := hF.run.len
  obtain ⟨p, hpz⟩ : ∃ p : Nat, base + nn = (p : Int) := ⟨(base + nn).toNat, by omega⟩
  have hpl : placeV N base nn = (p : Int) := by rw [← hpz]; exact if_neg (by omega)
  have hpm : p < m.length := by omega
  rw [hpz, Int.toNat_natCast] at hv
  have HP := Aside0.mk (And.intro hpm hv)
  have hpN : (p : Int) < (N : Int) := by omega
  have hp0 : ¬ ((p : Int) < 0) := by omega
  clear hE hv hc hb0 hln hpz hpm
  have HF := Aside0.mk hF; have G4 := Aside0.mk g4
  have NG := Aside0.mk (show gf < w.heap.size from hF.lts.1)
  clear hF g4
  go_enter Tryz.func113, Tryz.ntmps113
  go_upto_region 1 with fail
  have hs := start2 w (.cells #[.int .i64 16, .string nm, .int .i64 nn, .slice A3 xs.length c3, .slice A4 0 c4] 38) (.cells #[.bool false, .int .i64 0] 93)
  have HL := Aside0.mk (show w.heap.size ≤ w.heap.size + 1 ∧ gf ≠ w.heap.size + 1 from by have := NG.out; omega)
  have N3 := Aside0.mk (show w.heap.size ≠ gf from by have := NG.out; omega)
  generalize (w.alloc (.cells #[.int .i64 16, .string nm, .int .i64 nn, .slice A3 xs.length c3, .slice A4 0 c4] 38)).alloc (.cells #[.bool false, .int .i64 0] 93) = w5 at hs ⊢
  obtain ⟨b3, b4, hb⟩ := hs
  have HM := Aside0.mk (MarkT.below (g := g) (gf := gf) (base := base) (b0 := bad) hb)
  replace HF := Aside0.mk (HF.out.marked HM.out)
  clear hb
  generalize w.heap.size + 1 = g4 at b4 HL ⊢
  obtain ⟨g3, hq⟩ : ∃ g3, w.heap.size = g3 := ⟨_, rfl⟩
  rw [hq] at b3 N3 ⊢
  clear hq
  have B3 := Aside0.mk b3; have B4 := Aside0.mk b4; clear b3 b4
  have c3_0 := (blk_cell B3.out 0).trans rfl
  have c3_1 := (blk_cell B3.out 1).trans rfl
  have c3_2 := (blk_cell B3.out 2).trans rfl
  have c3_3 := (blk_cell B3.out 3).trans rfl
  have c3_4 := (blk_cell B3.out 4).trans rfl
  have hp := place_calls HF.out nn
  rw [hpl] at hp
  go_wp2_with fail
  refine hp.mono ?_
  rintro e w6 ⟨rfl, hb⟩
  replace HM := Aside0.mk (HM.out.step hb)
  replace B4 := Aside0.mk (below_blk B4.out hb)
  replace HF := Aside0.mk (HF.out.below' hb)
  clear hb hp c3_0 c3_1 c3_2 c3_3 c3_4
  obtain ⟨fv, fvs, hfrm, _, _, _⟩ := HF.out.frm
  have x0 := (blk_cell hfrm 0).trans rfl
  have y1 := (blk_cell HF.out.run.blk 1).trans rfl
  have k0 := HF.out.run.mem.cell0 p HP.out.1
  have k1 := HF.out.run.mem.cell1 p HP.out.1
  have hv := HP.out.2
  unfold nilC at hv
  rw [hv] at k0 k1
  clear hv hfrm hpl
  go_wp2_with ((with_reducible refine gate_store (t := 93) (p := 4) rfl ?_); refine store_whole rfl rfl 93 _ _ rfl g4 _ 93 rfl B4.out _ rfl rfl rfl (by simp [Value.oneCell']) ?_; intro wz hb6 hg6; replace HM := Aside0.mk (HM.out.fresh hg6 HL.out.1 HL.out.2); replace B4 := Aside0.mk hb6; clear hb6 hg6)
  (try simp only [Exit.inBlock, Exit.then])
  refine bodyPost_ret (results_cell_row rfl _ _ g4 93 _ (0, 0) _ rfl B4.out Tryz.underlying93 rfl (by kernel_rfl)) rfl ?_
  exact ⟨rfl, HM.out⟩
 ·have hE : valE m base f ⟨16, nm, nn, xs, []⟩ = none := by rw [valE_mem]; exact if_neg hc
  rw [show valN m base f ⟨16, nm, nn, xs, []⟩ = nilC by unfold valN; rw [hE]; rfl, show valT m base f ⟨16, nm, nn, xs, []⟩ = true by unfold valT; rw [hE]; rfl, Bool.or_true]
  have hln := hF.run.len
  have hpl : placeV N base nn = -1 := if_pos (by omega)
  clear hE hc hln
  have HF := Aside0.mk hF; have G4 := Aside0.mk g4
  have NG := Aside0.mk (show gf < w.heap.size from hF.lts.1)
  clear hF g4
  go_enter Tryz.func113, Tryz.ntmps113
  go_upto_region 1 with fail
  have hs := start2 w (.cells #[.int .i64 16, .string nm, .int .i64 nn, .slice A3 xs.length c3, .slice A4 0 c4] 38) (.cells #[.bool false, .int .i64 0] 93)
  have HL := Aside0.mk (show w.heap.size ≤ w.heap.size + 1 ∧ gf ≠ w.heap.size + 1 from by have := NG.out; omega)
  have N3 := Aside0.mk (show w.heap.size ≠ gf from by have := NG.out; omega)
  generalize (w.alloc (.cells #[.int .i64 16, .string nm, .int .i64 nn, .slice A3 xs.length c3, .slice A4 0 c4] 38)).alloc (.cells #[.bool false, .int .i64 0] 93) = w5 at hs ⊢
  obtain ⟨b3, b4, hb⟩ := hs
  have HM := Aside0.mk (MarkT.below (g := g) (gf := gf) (base := base) (b0 := bad) hb)
  replace HF := Aside0.mk (HF.out.marked HM.out)
  clear hb
  generalize w.heap.size + 1 = g4 at b4 HL ⊢
  obtain ⟨g3, hq⟩ : ∃ g3, w.heap.size = g3 := ⟨_, rfl⟩
  rw [hq] at b3 N3 ⊢
  clear hq
  have B3 := Aside0.mk b3; have B4 := Aside0.mk b4; clear b3 b4
  have c3_0 := (blk_cell B3.out 0).trans rfl
  have c3_1 := (blk_cell B3.out 1).trans rfl
  have c3_2 := (blk_cell B3.out 2).trans rfl
  have c3_3 := (blk_cell B3.out 3).trans rfl
  have c3_4 := (blk_cell B3.out 4).trans rfl
  have hp := place_calls HF.out nn
  rw [hpl] at hp
  go_wp2_with fail
  refine hp.mono ?_
  rintro e w6 ⟨rfl, hb⟩
  replace HM := Aside0.mk (HM.out.step hb)
  replace B4 := Aside0.mk (below_blk B4.out hb)
  replace HF := Aside0.mk (HF.out.below' hb)
  clear hb hp c3_0 c3_1 c3_2 c3_3 c3_4
  obtain ⟨fv, fvs, hfrm, _, _, _⟩ := HF.out.frm
  have x3 := (blk_cell hfrm 3).trans rfl
  have f3 := blk_frozen hfrm 3
  clear hfrm hpl
  go_upto_region 10 with fail
  replace HM := Aside0.mk HM.out.mark
  replace B4 := Aside0.mk (blk_far B4.out (p := ⟨gf, 3, none⟩) (Ne.symm HL.out.2) (.bool true))
  clear x3 f3 HF
  generalize w6.setCell ⟨gf, 3, none⟩ (.bool true) = w7 at HM B4 ⊢
  go_wp2_with ((with_reducible refine gate_store (t := 93) (p := 4) rfl ?_); refine store_whole rfl rfl 93 _ _ rfl g4 _ 93 rfl B4.out _ rfl rfl rfl (by simp [Value.oneCell']) ?_; intro wz hb6 hg6; replace HM := Aside0.mk (HM.out.fresh hg6 HL.out.1 HL.out.2); replace B4 := Aside0.mk hb6; clear hb6 hg6)
  (try simp only [Exit.inBlock, Exit.then])
  refine bodyPost_ret (results_cell_row rfl _ _ g4 93 _ (0, 0) _ rfl B4.out Tryz.underlying93 rfl (by kernel_rfl)) rfl ?_
  exact ⟨rfl, HM.out⟩
set_option maxHeartbeats 2000000 in
theorem rvalue_un (nn : Int) (nm : ByteArray) (xs : List ByteArray) (a : S38) (iha : RValSays w0 g ma A c l N m tr cn gf base bv q f a)  : RValSays w0 g ma A c l N m tr cn gf base bv q f ⟨5, nm, nn, xs, [a]⟩ := by
 intro w cs bad hF hK
 obtain ⟨A3, c3, A4, c4, rfl, g4⟩ := kE_open' hK
 clear hK
 rw [(un_NT nm nn xs a).1, (un_NT nm nn xs a).2]
 obtain ⟨⟨va, oa⟩, hva⟩ : ∃ c, valN m base f a = c := ⟨_, rfl⟩
 rw [hva]
 obtain ⟨⟨u, e⟩, hu⟩ : ∃ r, unV nm va = r := ⟨_, rfl⟩
 have hun := fun W => un4_calls nm va W
 rw [hu] at hun
 cases oa with
 | false =>
  have HC := Aside0.mk (show unC nm (va, false) = nilC from if_neg (fun e => Bool.false_ne_true e.1))
  clear hu
  have HF := Aside0.mk hF; have G4 := Aside0.mk g4
  have NG := Aside0.mk (show gf < w.heap.size from hF.lts.1)
  clear hF g4
  go_enter Tryz.func113, Tryz.ntmps113
  go_upto_region 1 with fail
  have hs := start2 w (.cells #[.int .i64 5, .string nm, .int .i64 nn, .slice A3 xs.length c3, .slice A4 1 c4] 38) (.cells #[.bool false, .int .i64 0] 93)
  have HL := Aside0.mk (show w.heap.size ≤ w.heap.size + 1 ∧ gf ≠ w.heap.size + 1 from by have := NG.out; omega)
  have N3 := Aside0.mk (show w.heap.size ≠ gf from by have := NG.out; omega)
  generalize (w.alloc (.cells #[.int .i64 5, .string nm, .int .i64 nn, .slice A3 xs.length c3, .slice A4 1 c4] 38)).alloc (.cells #[.bool false, .int .i64 0] 93) = w5 at hs ⊢
  obtain ⟨b3, b4, hb⟩ := hs
  have HM := Aside0.mk (MarkT.below (g := g) (gf := gf) (base := base) (b0 := bad) hb)
  replace HF := Aside0.mk (HF.out.marked HM.out)
  clear hb
  generalize w.heap.size + 1 = g4 at b4 HL ⊢
  obtain ⟨g3, hq⟩ : ∃ g3, w.heap.size = g3 := ⟨_, rfl⟩
  rw [hq] at b3 N3 ⊢
  clear hq
  have B3 := Aside0.mk b3; have B4 := Aside0.mk b4; clear b3 b4
  have c3_0 := (blk_cell B3.out 0).trans rfl
  have c3_1 := (blk_cell B3.out 1).trans rfl
  have c3_2 := (blk_cell B3.out 2).trans rfl
  have c3_3 := (blk_cell B3.out 3).trans rfl
  have c3_4 := (blk_cell B3.out 4).trans rfl
  obtain ⟨aad, aA3, ac3, aA4, ac4, ea, aK, ax0, ax1, ax2, ax3, ax4⟩ := kid_cells HF.out.run.below G4.out 0 (by simp) a rfl
  obtain rfl := ea
  simp only [Nat.zero_mul, Nat.one_mul, Nat.reduceMul, Nat.add_zero, add_zero'] at ax0 ax1 ax2 ax3 ax4
  try simp only [add_pos _ _ (show (5 : Nat) ≠ 0 by decide), add_pos _ _ (show (10 : Nat) ≠ 0 by decide)] at ax0 ax1 ax2 ax3 ax4
  have HaK := Aside0.mk aK
  clear aK
  have hca := rv_at iha hva _ HaK.out (bad)
  go_wp2_with fail
  refine (hca _ HF.out).mono ?_
  rintro e w6 ⟨rfl, hm⟩
  replace B3 := Aside0.mk (hm.blk B3.out N3.out)
  replace B4 := Aside0.mk (hm.blk B4.out (Ne.symm HL.out.2))
  replace HM := Aside0.mk (HM.out.trans hm)
  replace HF := Aside0.mk (HF.out.marked hm)
  have NW := Aside0.mk (show w6.heap.size ≠ gf from by have := HF.out.lts.1; omega)
  clear hm hca
  clear c3_0 c3_1 c3_2 c3_3 c3_4
  clear ax0 ax1 ax2 ax3 ax4
  go_wp2_with ((with_reducible refine gate_store (t := 93) (p := 7) rfl ?_); refine store_whole rfl rfl 93 _ _ rfl w6.heap.size _ 93 rfl (blk_new _ _) _ rfl rfl rfl (by simp [Value.oneCell']) ?_; intro w2 hb2 hg2; replace B3 := Aside0.mk (blk_as B3.out hg2); replace B4 := Aside0.mk (blk_as B4.out hg2); have hbb_ := below_as (Below.refl w6.heap.size w6) hg2; replace HF := Aside0.mk (HF.out.below' hbb_); replace HM := Aside0.mk (HM.out.step hbb_); skip; obtain ⟨g7, hq_⟩ : ∃ g_, g_ = w6.heap.size := ⟨_, rfl⟩; have Ng7 := Aside0.mk (show g7 ≠ gf from by rw [hq_]; exact NW.out); rw [← hq_] at hb2; rw [← hq_]; have Bg7 := Aside0.mk hb2; clear hb2 hg2 hq_ hbb_ NW; have dg7_0 := (blk_cell Bg7.out 0).trans rfl; have dg7_1 := (blk_cell Bg7.out 1).trans rfl; have c3_0 := (blk_cell B3.out 0).trans rfl; have c3_1 := (blk_cell B3.out 1).trans rfl; have c3_2 := (blk_cell B3.out 2).trans rfl; have c3_3 := (blk_cell B3.out 3).trans rfl; have c3_4 := (blk_cell B3.out 4).trans rfl)
  refine (hun _).mono ?_
  rintro e_ w8 ⟨rfl, rfl⟩
  clear hun c3_0 c3_1 c3_2 c3_3 c3_4
  have c3_0 := (blk_cell B3.out 0).trans rfl; have c3_1 := (blk_cell B3.out 1).trans rfl; have c3_2 := (blk_cell B3.out 2).trans rfl; have c3_3 := (blk_cell B3.out 3).trans rfl; have c3_4 := (blk_cell B3.out 4).trans rfl
  go_wp2_with ((with_reducible refine gate_store (t := 93) (p := 4) rfl ?_); refine store_whole rfl rfl 93 _ _ rfl g4 _ 93 rfl B4.out _ rfl rfl rfl (by simp [Value.oneCell']) ?_; intro wz hb6 hg6; replace HM := Aside0.mk (HM.out.fresh hg6 HL.out.1 HL.out.2); replace B4 := Aside0.mk hb6; clear hb6 hg6)
  (try simp only [Exit.inBlock, Exit.then])
  refine bodyPost_ret (results_cell_row rfl _ _ g4 93 _ (0, 0) _ rfl B4.out Tryz.underlying93 rfl (by kernel_rfl)) rfl ?_
  exact ⟨by rw [HC.out]; rfl, HM.out⟩
 | true =>
  by_cases he : e = 0
  ·subst he
   have HC := Aside0.mk (show unC nm (va, true) = (u, true) by unfold unC; rw [hu]; exact if_pos ⟨rfl, rfl⟩)
   clear hu
   have HF := Aside0.mk hF; have G4 := Aside0.mk g4
   have NG := Aside0.mk (show gf < w.heap.size from hF.lts.1)
   clear hF g4
   go_enter Tryz.func113, Tryz.ntmps113
   go_upto_region 1 with fail
   have hs := start2 w (.cells #[.int .i64 5, .string nm, .int .i64 nn, .slice A3 xs.length c3, .slice A4 1 c4] 38) (.cells #[.bool false, .int .i64 0] 93)
   have HL := Aside0.mk (show w.heap.size ≤ w.heap.size + 1 ∧ gf ≠ w.heap.size + 1 from by have := NG.out; omega)
   have N3 := Aside0.mk (show w.heap.size ≠ gf from by have := NG.out; omega)
   generalize (w.alloc (.cells #[.int .i64 5, .string nm, .int .i64 nn, .slice A3 xs.length c3, .slice A4 1 c4] 38)).alloc (.cells #[.bool false, .int .i64 0] 93) = w5 at hs ⊢
   obtain ⟨b3, b4, hb⟩ := hs
   have HM := Aside0.mk (MarkT.below (g := g) (gf := gf) (base := base) (b0 := bad) hb)
   replace HF := Aside0.mk (HF.out.marked HM.out)
   clear hb
   generalize w.heap.size + 1 = g4 at b4 HL ⊢
   obtain ⟨g3, hq⟩ : ∃ g3, w.heap.size = g3 := ⟨_, rfl⟩
   rw [hq] at b3 N3 ⊢
   clear hq
   have B3 := Aside0.mk b3; have B4 := Aside0.mk b4; clear b3 b4
   have c3_0 := (blk_cell B3.out 0).trans rfl
   have c3_1 := (blk_cell B3.out 1).trans rfl
   have c3_2 := (blk_cell B3.out 2).trans rfl
   have c3_3 := (blk_cell B3.out 3).trans rfl
   have c3_4 := (blk_cell B3.out 4).trans rfl
   obtain ⟨aad, aA3, ac3, aA4, ac4, ea, aK, ax0, ax1, ax2, ax3, ax4⟩ := kid_cells HF.out.run.below G4.out 0 (by simp) a rfl
   obtain rfl := ea
   simp only [Nat.zero_mul, Nat.one_mul, Nat.reduceMul, Nat.add_zero, add_zero'] at ax0 ax1 ax2 ax3 ax4
   try simp only [add_pos _ _ (show (5 : Nat) ≠ 0 by decide), add_pos _ _ (show (10 : Nat) ≠ 0 by decide)] at ax0 ax1 ax2 ax3 ax4
   have HaK := Aside0.mk aK
   clear aK
   have hca := rv_at iha hva _ HaK.out (bad)
   go_wp2_with fail
   refine (hca _ HF.out).mono ?_
   rintro e w6 ⟨rfl, hm⟩
   replace B3 := Aside0.mk (hm.blk B3.out N3.out)
   replace B4 := Aside0.mk (hm.blk B4.out (Ne.symm HL.out.2))
   replace HM := Aside0.mk (HM.out.trans hm)
   replace HF := Aside0.mk (HF.out.marked hm)
   have NW := Aside0.mk (show w6.heap.size ≠ gf from by have := HF.out.lts.1; omega)
   clear hm hca
   clear c3_0 c3_1 c3_2 c3_3 c3_4
   clear ax0 ax1 ax2 ax3 ax4
   go_wp2_with ((with_reducible refine gate_store (t := 93) (p := 7) rfl ?_); refine store_whole rfl rfl 93 _ _ rfl w6.heap.size _ 93 rfl (blk_new _ _) _ rfl rfl rfl (by simp [Value.oneCell']) ?_; intro w2 hb2 hg2; replace B3 := Aside0.mk (blk_as B3.out hg2); replace B4 := Aside0.mk (blk_as B4.out hg2); have hbb_ := below_as (Below.refl w6.heap.size w6) hg2; replace HF := Aside0.mk (HF.out.below' hbb_); replace HM := Aside0.mk (HM.out.step hbb_); skip; obtain ⟨g7, hq_⟩ : ∃ g_, g_ = w6.heap.size := ⟨_, rfl⟩; have Ng7 := Aside0.mk (show g7 ≠ gf from by rw [hq_]; exact NW.out); rw [← hq_] at hb2; rw [← hq_]; have Bg7 := Aside0.mk hb2; clear hb2 hg2 hq_ hbb_ NW; have dg7_0 := (blk_cell Bg7.out 0).trans rfl; have dg7_1 := (blk_cell Bg7.out 1).trans rfl; have c3_0 := (blk_cell B3.out 0).trans rfl; have c3_1 := (blk_cell B3.out 1).trans rfl; have c3_2 := (blk_cell B3.out 2).trans rfl; have c3_3 := (blk_cell B3.out 3).trans rfl; have c3_4 := (blk_cell B3.out 4).trans rfl)
   refine (hun _).mono ?_
   rintro e_ w8 ⟨rfl, rfl⟩
   clear hun c3_0 c3_1 c3_2 c3_3 c3_4
   have c3_0 := (blk_cell B3.out 0).trans rfl; have c3_1 := (blk_cell B3.out 1).trans rfl; have c3_2 := (blk_cell B3.out 2).trans rfl; have c3_3 := (blk_cell B3.out 3).trans rfl; have c3_4 := (blk_cell B3.out 4).trans rfl
   go_wp2_with ((with_reducible refine gate_store (t := 93) (p := 4) rfl ?_); refine store_whole rfl rfl 93 _ _ rfl g4 _ 93 rfl B4.out _ rfl rfl rfl (by simp [Value.oneCell']) ?_; intro wz hb6 hg6; replace HM := Aside0.mk (HM.out.fresh hg6 HL.out.1 HL.out.2); replace B4 := Aside0.mk hb6; clear hb6 hg6)
   (try simp only [Exit.inBlock, Exit.then])
   refine bodyPost_ret (results_cell_row rfl _ _ g4 93 _ (0, 0) _ rfl B4.out Tryz.underlying93 rfl (by kernel_rfl)) rfl ?_
   exact ⟨by rw [HC.out]; rfl, HM.out⟩
  ·have HC := Aside0.mk (show unC nm (va, true) = nilC by unfold unC; rw [hu]; exact if_neg (fun h => he h.2))
   have te : (e == (0 : Int)) = false := ne_bool he
   clear hu he
   have HF := Aside0.mk hF; have G4 := Aside0.mk g4
   have NG := Aside0.mk (show gf < w.heap.size from hF.lts.1)
   clear hF g4
   go_enter Tryz.func113, Tryz.ntmps113
   go_upto_region 1 with fail
   have hs := start2 w (.cells #[.int .i64 5, .string nm, .int .i64 nn, .slice A3 xs.length c3, .slice A4 1 c4] 38) (.cells #[.bool false, .int .i64 0] 93)
   have HL := Aside0.mk (show w.heap.size ≤ w.heap.size + 1 ∧ gf ≠ w.heap.size + 1 from by have := NG.out; omega)
   have N3 := Aside0.mk (show w.heap.size ≠ gf from by have := NG.out; omega)
   generalize (w.alloc (.cells #[.int .i64 5, .string nm, .int .i64 nn, .slice A3 xs.length c3, .slice A4 1 c4] 38)).alloc (.cells #[.bool false, .int .i64 0] 93) = w5 at hs ⊢
   obtain ⟨b3, b4, hb⟩ := hs
   have HM := Aside0.mk (MarkT.below (g := g) (gf := gf) (base := base) (b0 := bad) hb)
   replace HF := Aside0.mk (HF.out.marked HM.out)
   clear hb
   generalize w.heap.size + 1 = g4 at b4 HL ⊢
   obtain ⟨g3, hq⟩ : ∃ g3, w.heap.size = g3 := ⟨_, rfl⟩
   rw [hq] at b3 N3 ⊢
   clear hq
   have B3 := Aside0.mk b3; have B4 := Aside0.mk b4; clear b3 b4
   have c3_0 := (blk_cell B3.out 0).trans rfl
   have c3_1 := (blk_cell B3.out 1).trans rfl
   have c3_2 := (blk_cell B3.out 2).trans rfl
   have c3_3 := (blk_cell B3.out 3).trans rfl
   have c3_4 := (blk_cell B3.out 4).trans rfl
   obtain ⟨aad, aA3, ac3, aA4, ac4, ea, aK, ax0, ax1, ax2, ax3, ax4⟩ := kid_cells HF.out.run.below G4.out 0 (by simp) a rfl
   obtain rfl := ea
   simp only [Nat.zero_mul, Nat.one_mul, Nat.reduceMul, Nat.add_zero, add_zero'] at ax0 ax1 ax2 ax3 ax4
   try simp only [add_pos _ _ (show (5 : Nat) ≠ 0 by decide), add_pos _ _ (show (10 : Nat) ≠ 0 by decide)] at ax0 ax1 ax2 ax3 ax4
   have HaK := Aside0.mk aK
   clear aK
   have hca := rv_at iha hva _ HaK.out (bad)
   go_wp2_with fail
   refine (hca _ HF.out).mono ?_
   rintro e w6 ⟨rfl, hm⟩
   replace B3 := Aside0.mk (hm.blk B3.out N3.out)
   replace B4 := Aside0.mk (hm.blk B4.out (Ne.symm HL.out.2))
   replace HM := Aside0.mk (HM.out.trans hm)
   replace HF := Aside0.mk (HF.out.marked hm)
   have NW := Aside0.mk (show w6.heap.size ≠ gf from by have := HF.out.lts.1; omega)
   clear hm hca
   clear c3_0 c3_1 c3_2 c3_3 c3_4
   clear ax0 ax1 ax2 ax3 ax4
   go_wp2_with ((with_reducible refine gate_store (t := 93) (p := 7) rfl ?_); refine store_whole rfl rfl 93 _ _ rfl w6.heap.size _ 93 rfl (blk_new _ _) _ rfl rfl rfl (by simp [Value.oneCell']) ?_; intro w2 hb2 hg2; replace B3 := Aside0.mk (blk_as B3.out hg2); replace B4 := Aside0.mk (blk_as B4.out hg2); have hbb_ := below_as (Below.refl w6.heap.size w6) hg2; replace HF := Aside0.mk (HF.out.below' hbb_); replace HM := Aside0.mk (HM.out.step hbb_); skip; obtain ⟨g7, hq_⟩ : ∃ g_, g_ = w6.heap.size := ⟨_, rfl⟩; have Ng7 := Aside0.mk (show g7 ≠ gf from by rw [hq_]; exact NW.out); rw [← hq_] at hb2; rw [← hq_]; have Bg7 := Aside0.mk hb2; clear hb2 hg2 hq_ hbb_ NW; have dg7_0 := (blk_cell Bg7.out 0).trans rfl; have dg7_1 := (blk_cell Bg7.out 1).trans rfl; have c3_0 := (blk_cell B3.out 0).trans rfl; have c3_1 := (blk_cell B3.out 1).trans rfl; have c3_2 := (blk_cell B3.out 2).trans rfl; have c3_3 := (blk_cell B3.out 3).trans rfl; have c3_4 := (blk_cell B3.out 4).trans rfl)
   refine (hun _).mono ?_
   rintro e_ w8 ⟨rfl, rfl⟩
   clear hun c3_0 c3_1 c3_2 c3_3 c3_4
   have c3_0 := (blk_cell B3.out 0).trans rfl; have c3_1 := (blk_cell B3.out 1).trans rfl; have c3_2 := (blk_cell B3.out 2).trans rfl; have c3_3 := (blk_cell B3.out 3).trans rfl; have c3_4 := (blk_cell B3.out 4).trans rfl
   go_wp2_with ((with_reducible refine gate_store (t := 93) (p := 4) rfl ?_); refine store_whole rfl rfl 93 _ _ rfl g4 _ 93 rfl B4.out _ rfl rfl rfl (by simp [Value.oneCell']) ?_; intro wz hb6 hg6; replace HM := Aside0.mk (HM.out.fresh hg6 HL.out.1 HL.out.2); replace B4 := Aside0.mk hb6; clear hb6 hg6)
   (try simp only [Exit.inBlock, Exit.then])
   refine bodyPost_ret (results_cell_row rfl _ _ g4 93 _ (0, 0) _ rfl B4.out Tryz.underlying93 rfl (by kernel_rfl)) rfl ?_
   exact ⟨by rw [HC.out]; rfl, HM.out⟩
set_option maxHeartbeats 2000000 in
theorem rvalue_bin (nn : Int) (nm : ByteArray) (xs : List ByteArray) (a b : S38) (hia : ExIn a) (hib : ExIn b) (iha : RValSays w0 g ma A c l N m tr cn gf base bv q f a) (ihb : RValSays w0 g ma A c l N m tr cn gf base bv q f b)  : RValSays w0 g ma A c l N m tr cn gf base bv q f ⟨6, nm, nn, xs, [a, b]⟩ := by
 intro w cs bad hF hK
 obtain ⟨A3, c3, A4, c4, rfl, g4⟩ := kE_open' hK
 clear hK
 have hna := valN_in hF.inm base hF.inv hia
 have hnb := valN_in hF.inm base hF.inv hib
 rw [(bin_NT nm nn xs a b).1, (bin_NT nm nn xs a b).2]
 obtain ⟨⟨va, oa⟩, hva⟩ : ∃ c, valN m base f a = c := ⟨_, rfl⟩
 obtain ⟨⟨vb, ob⟩, hvb⟩ : ∃ c, valN m base f b = c := ⟨_, rfl⟩
 rw [hva] at hna
 rw [hvb] at hnb
 rw [hva, hvb]
 obtain ⟨⟨u, e⟩, hu⟩ : ∃ r, binV nm va vb = r := ⟨_, rfl⟩
 have hbn := fun W => bin4_calls nm hna hnb W
 simp only [] at hbn
 rw [hu] at hbn
 clear hna hnb hia hib
 cases oa with
 | false =>
  have HC := Aside0.mk (show binC nm (va, false) (vb, ob) = nilC from if_neg (fun e => Bool.false_ne_true e.1))
  clear hu
  have HF := Aside0.mk hF; have G4 := Aside0.mk g4
  have NG := Aside0.mk (show gf < w.heap.size from hF.lts.1)
  clear hF g4
  go_enter Tryz.func113, Tryz.ntmps113
  go_upto_region 1 with fail
  have hs := start2 w (.cells #[.int .i64 6, .string nm, .int .i64 nn, .slice A3 xs.length c3, .slice A4 2 c4] 38) (.cells #[.bool false, .int .i64 0] 93)
  have HL := Aside0.mk (show w.heap.size ≤ w.heap.size + 1 ∧ gf ≠ w.heap.size + 1 from by have := NG.out; omega)
  have N3 := Aside0.mk (show w.heap.size ≠ gf from by have := NG.out; omega)
  generalize (w.alloc (.cells #[.int .i64 6, .string nm, .int .i64 nn, .slice A3 xs.length c3, .slice A4 2 c4] 38)).alloc (.cells #[.bool false, .int .i64 0] 93) = w5 at hs ⊢
  obtain ⟨b3, b4, hb⟩ := hs
  have HM := Aside0.mk (MarkT.below (g := g) (gf := gf) (base := base) (b0 := bad) hb)
  replace HF := Aside0.mk (HF.out.marked HM.out)
  clear hb
  generalize w.heap.size + 1 = g4 at b4 HL ⊢
  obtain ⟨g3, hq⟩ : ∃ g3, w.heap.size = g3 := ⟨_, rfl⟩
  rw [hq] at b3 N3 ⊢
  clear hq
  have B3 := Aside0.mk b3; have B4 := Aside0.mk b4; clear b3 b4
  have c3_0 := (blk_cell B3.out 0).trans rfl
  have c3_1 := (blk_cell B3.out 1).trans rfl
  have c3_2 := (blk_cell B3.out 2).trans rfl
  have c3_3 := (blk_cell B3.out 3).trans rfl
  have c3_4 := (blk_cell B3.out 4).trans rfl
  obtain ⟨aad, aA3, ac3, aA4, ac4, ea, aK, ax0, ax1, ax2, ax3, ax4⟩ := kid_cells HF.out.run.below G4.out 0 (by simp) a rfl
  obtain rfl := ea
  simp only [Nat.zero_mul, Nat.one_mul, Nat.reduceMul, Nat.add_zero, add_zero'] at ax0 ax1 ax2 ax3 ax4
  try simp only [add_pos _ _ (show (5 : Nat) ≠ 0 by decide), add_pos _ _ (show (10 : Nat) ≠ 0 by decide)] at ax0 ax1 ax2 ax3 ax4
  have HaK := Aside0.mk aK
  clear aK
  have hca := rv_at iha hva _ HaK.out (bad)
  go_wp2_with fail
  refine (hca _ HF.out).mono ?_
  rintro e w6 ⟨rfl, hm⟩
  replace B3 := Aside0.mk (hm.blk B3.out N3.out)
  replace B4 := Aside0.mk (hm.blk B4.out (Ne.symm HL.out.2))
  replace HM := Aside0.mk (HM.out.trans hm)
  replace HF := Aside0.mk (HF.out.marked hm)
  have NW := Aside0.mk (show w6.heap.size ≠ gf from by have := HF.out.lts.1; omega)
  clear hm hca
  clear c3_0 c3_1 c3_2 c3_3 c3_4
  clear ax0 ax1 ax2 ax3 ax4
  go_wp2_with ((with_reducible refine gate_store (t := 93) (p := 10) rfl ?_); refine store_whole rfl rfl 93 _ _ rfl w6.heap.size _ 93 rfl (blk_new _ _) _ rfl rfl rfl (by simp [Value.oneCell']) ?_; intro w2 hb2 hg2; replace B3 := Aside0.mk (blk_as B3.out hg2); replace B4 := Aside0.mk (blk_as B4.out hg2); have hbb_ := below_as (Below.refl w6.heap.size w6) hg2; replace HF := Aside0.mk (HF.out.below' hbb_); replace HM := Aside0.mk (HM.out.step hbb_); skip; obtain ⟨g10, hq_⟩ : ∃ g_, g_ = w6.heap.size := ⟨_, rfl⟩; have Ng10 := Aside0.mk (show g10 ≠ gf from by rw [hq_]; exact NW.out); rw [← hq_] at hb2; rw [← hq_]; have Bg10 := Aside0.mk hb2; clear hb2 hg2 hq_ hbb_ NW; have dg10_0 := (blk_cell Bg10.out 0).trans rfl; have dg10_1 := (blk_cell Bg10.out 1).trans rfl; have c3_0 := (blk_cell B3.out 0).trans rfl; have c3_1 := (blk_cell B3.out 1).trans rfl; have c3_2 := (blk_cell B3.out 2).trans rfl; have c3_3 := (blk_cell B3.out 3).trans rfl; have c3_4 := (blk_cell B3.out 4).trans rfl; obtain ⟨bad, bA3, bc3, bA4, bc4, eb, bK, bx0, bx1, bx2, bx3, bx4⟩ := kid_cells HF.out.run.below G4.out 1 (by simp) b rfl; injection eb with eb; subst eb; simp only [Nat.zero_mul, Nat.one_mul, Nat.reduceMul, Nat.add_zero, add_zero'] at bx0 bx1 bx2 bx3 bx4; try simp only [add_pos _ _ (show (5 : Nat) ≠ 0 by decide), add_pos _ _ (show (10 : Nat) ≠ 0 by decide)] at bx0 bx1 bx2 bx3 bx4; have HbK := Aside0.mk bK; clear bK)
  have hcb := rv_at ihb hvb _ HbK.out (bad || valT m base f a)
  skip
  refine (hcb _ HF.out).mono ?_
  rintro e w8 ⟨rfl, hm⟩
  replace B3 := Aside0.mk (hm.blk B3.out N3.out)
  replace B4 := Aside0.mk (hm.blk B4.out (Ne.symm HL.out.2))
  replace Bg10 := Aside0.mk (hm.blk Bg10.out Ng10.out)
  replace HM := Aside0.mk (HM.out.trans hm)
  replace HF := Aside0.mk (HF.out.marked hm)
  have NW := Aside0.mk (show w8.heap.size ≠ gf from by have := HF.out.lts.1; omega)
  clear hm hcb
  clear c3_0 c3_1 c3_2 c3_3 c3_4
  clear bx0 bx1 bx2 bx3 bx4
  clear dg10_0 dg10_1
  go_wp2_with ((with_reducible refine gate_store (t := 93) (p := 11) rfl ?_); refine store_whole rfl rfl 93 _ _ rfl w8.heap.size _ 93 rfl (blk_new _ _) _ rfl rfl rfl (by simp [Value.oneCell']) ?_; intro w2 hb2 hg2; replace B3 := Aside0.mk (blk_as B3.out hg2); replace B4 := Aside0.mk (blk_as B4.out hg2); replace Bg10 := Aside0.mk (blk_as Bg10.out hg2); have hbb_ := below_as (Below.refl w8.heap.size w8) hg2; replace HF := Aside0.mk (HF.out.below' hbb_); replace HM := Aside0.mk (HM.out.step hbb_); skip; obtain ⟨g11, hq_⟩ : ∃ g_, g_ = w8.heap.size := ⟨_, rfl⟩; have Ng11 := Aside0.mk (show g11 ≠ gf from by rw [hq_]; exact NW.out); rw [← hq_] at hb2; rw [← hq_]; have Bg11 := Aside0.mk hb2; clear hb2 hg2 hq_ hbb_ NW; have dg11_0 := (blk_cell Bg11.out 0).trans rfl; have dg11_1 := (blk_cell Bg11.out 1).trans rfl; have c3_0 := (blk_cell B3.out 0).trans rfl; have c3_1 := (blk_cell B3.out 1).trans rfl; have c3_2 := (blk_cell B3.out 2).trans rfl; have c3_3 := (blk_cell B3.out 3).trans rfl; have c3_4 := (blk_cell B3.out 4).trans rfl; have dg10_0 := (blk_cell Bg10.out 0).trans rfl; have dg10_1 := (blk_cell Bg10.out 1).trans rfl)
  refine (hbn _).mono ?_
  rintro e_ w10 ⟨rfl, rfl⟩
  clear hbn c3_0 c3_1 c3_2 c3_3 c3_4
  have c3_0 := (blk_cell B3.out 0).trans rfl; have c3_1 := (blk_cell B3.out 1).trans rfl; have c3_2 := (blk_cell B3.out 2).trans rfl; have c3_3 := (blk_cell B3.out 3).trans rfl; have c3_4 := (blk_cell B3.out 4).trans rfl
  go_wp2_with ((with_reducible refine gate_store (t := 93) (p := 4) rfl ?_); refine store_whole rfl rfl 93 _ _ rfl g4 _ 93 rfl B4.out _ rfl rfl rfl (by simp [Value.oneCell']) ?_; intro wz hb6 hg6; replace HM := Aside0.mk (HM.out.fresh hg6 HL.out.1 HL.out.2); replace B4 := Aside0.mk hb6; clear hb6 hg6)
  (try simp only [Exit.inBlock, Exit.then])
  refine bodyPost_ret (results_cell_row rfl _ _ g4 93 _ (0, 0) _ rfl B4.out Tryz.underlying93 rfl (by kernel_rfl)) rfl ?_
  exact ⟨by rw [HC.out]; rfl, by rw [← Bool.or_assoc]; exact HM.out⟩
 | true =>
  cases ob with
  | false =>
   have HC := Aside0.mk (show binC nm (va, true) (vb, false) = nilC from if_neg (fun e => Bool.false_ne_true e.2.1))
   clear hu
   have HF := Aside0.mk hF; have G4 := Aside0.mk g4
   have NG := Aside0.mk (show gf < w.heap.size from hF.lts.1)
   clear hF g4
   go_enter Tryz.func113, Tryz.ntmps113
   go_upto_region 1 with fail
   have hs := start2 w (.cells #[.int .i64 6, .string nm, .int .i64 nn, .slice A3 xs.length c3, .slice A4 2 c4] 38) (.cells #[.bool false, .int .i64 0] 93)
   have HL := Aside0.mk (show w.heap.size ≤ w.heap.size + 1 ∧ gf ≠ w.heap.size + 1 from by have := NG.out; omega)
   have N3 := Aside0.mk (show w.heap.size ≠ gf from by have := NG.out; omega)
   generalize (w.alloc (.cells #[.int .i64 6, .string nm, .int .i64 nn, .slice A3 xs.length c3, .slice A4 2 c4] 38)).alloc (.cells #[.bool false, .int .i64 0] 93) = w5 at hs ⊢
   obtain ⟨b3, b4, hb⟩ := hs
   have HM := Aside0.mk (MarkT.below (g := g) (gf := gf) (base := base) (b0 := bad) hb)
   replace HF := Aside0.mk (HF.out.marked HM.out)
   clear hb
   generalize w.heap.size + 1 = g4 at b4 HL ⊢
   obtain ⟨g3, hq⟩ : ∃ g3, w.heap.size = g3 := ⟨_, rfl⟩
   rw [hq] at b3 N3 ⊢
   clear hq
   have B3 := Aside0.mk b3; have B4 := Aside0.mk b4; clear b3 b4
   have c3_0 := (blk_cell B3.out 0).trans rfl
   have c3_1 := (blk_cell B3.out 1).trans rfl
   have c3_2 := (blk_cell B3.out 2).trans rfl
   have c3_3 := (blk_cell B3.out 3).trans rfl
   have c3_4 := (blk_cell B3.out 4).trans rfl
   obtain ⟨aad, aA3, ac3, aA4, ac4, ea, aK, ax0, ax1, ax2, ax3, ax4⟩ := kid_cells HF.out.run.below G4.out 0 (by simp) a rfl
   obtain rfl := ea
   simp only [Nat.zero_mul, Nat.one_mul, Nat.reduceMul, Nat.add_zero, add_zero'] at ax0 ax1 ax2 ax3 ax4
   try simp only [add_pos _ _ (show (5 : Nat) ≠ 0 by decide), add_pos _ _ (show (10 : Nat) ≠ 0 by decide)] at ax0 ax1 ax2 ax3 ax4
   have HaK := Aside0.mk aK
   clear aK
   have hca := rv_at iha hva _ HaK.out (bad)
   go_wp2_with fail
   refine (hca _ HF.out).mono ?_
   rintro e w6 ⟨rfl, hm⟩
   replace B3 := Aside0.mk (hm.blk B3.out N3.out)
   replace B4 := Aside0.mk (hm.blk B4.out (Ne.symm HL.out.2))
   replace HM := Aside0.mk (HM.out.trans hm)
   replace HF := Aside0.mk (HF.out.marked hm)
   have NW := Aside0.mk (show w6.heap.size ≠ gf from by have := HF.out.lts.1; omega)
   clear hm hca
   clear c3_0 c3_1 c3_2 c3_3 c3_4
   clear ax0 ax1 ax2 ax3 ax4
   go_wp2_with ((with_reducible refine gate_store (t := 93) (p := 10) rfl ?_); refine store_whole rfl rfl 93 _ _ rfl w6.heap.size _ 93 rfl (blk_new _ _) _ rfl rfl rfl (by simp [Value.oneCell']) ?_; intro w2 hb2 hg2; replace B3 := Aside0.mk (blk_as B3.out hg2); replace B4 := Aside0.mk (blk_as B4.out hg2); have hbb_ := below_as (Below.refl w6.heap.size w6) hg2; replace HF := Aside0.mk (HF.out.below' hbb_); replace HM := Aside0.mk (HM.out.step hbb_); skip; obtain ⟨g10, hq_⟩ : ∃ g_, g_ = w6.heap.size := ⟨_, rfl⟩; have Ng10 := Aside0.mk (show g10 ≠ gf from by rw [hq_]; exact NW.out); rw [← hq_] at hb2; rw [← hq_]; have Bg10 := Aside0.mk hb2; clear hb2 hg2 hq_ hbb_ NW; have dg10_0 := (blk_cell Bg10.out 0).trans rfl; have dg10_1 := (blk_cell Bg10.out 1).trans rfl; have c3_0 := (blk_cell B3.out 0).trans rfl; have c3_1 := (blk_cell B3.out 1).trans rfl; have c3_2 := (blk_cell B3.out 2).trans rfl; have c3_3 := (blk_cell B3.out 3).trans rfl; have c3_4 := (blk_cell B3.out 4).trans rfl; obtain ⟨bad, bA3, bc3, bA4, bc4, eb, bK, bx0, bx1, bx2, bx3, bx4⟩ := kid_cells HF.out.run.below G4.out 1 (by simp) b rfl; injection eb with eb; subst eb; simp only [Nat.zero_mul, Nat.one_mul, Nat.reduceMul, Nat.add_zero, add_zero'] at bx0 bx1 bx2 bx3 bx4; try simp only [add_pos _ _ (show (5 : Nat) ≠ 0 by decide), add_pos _ _ (show (10 : Nat) ≠ 0 by decide)] at bx0 bx1 bx2 bx3 bx4; have HbK := Aside0.mk bK; clear bK)
   have hcb := rv_at ihb hvb _ HbK.out (bad || valT m base f a)
   skip
   refine (hcb _ HF.out).mono ?_
   rintro e w8 ⟨rfl, hm⟩
   replace B3 := Aside0.mk (hm.blk B3.out N3.out)
   replace B4 := Aside0.mk (hm.blk B4.out (Ne.symm HL.out.2))
   replace Bg10 := Aside0.mk (hm.blk Bg10.out Ng10.out)
   replace HM := Aside0.mk (HM.out.trans hm)
   replace HF := Aside0.mk (HF.out.marked hm)
   have NW := Aside0.mk (show w8.heap.size ≠ gf from by have := HF.out.lts.1; omega)
   clear hm hcb
   clear c3_0 c3_1 c3_2 c3_3 c3_4
   clear bx0 bx1 bx2 bx3 bx4
   clear dg10_0 dg10_1
   go_wp2_with ((with_reducible refine gate_store (t := 93) (p := 11) rfl ?_); refine store_whole rfl rfl 93 _ _ rfl w8.heap.size _ 93 rfl (blk_new _ _) _ rfl rfl rfl (by simp [Value.oneCell']) ?_; intro w2 hb2 hg2; replace B3 := Aside0.mk (blk_as B3.out hg2); replace B4 := Aside0.mk (blk_as B4.out hg2); replace Bg10 := Aside0.mk (blk_as Bg10.out hg2); have hbb_ := below_as (Below.refl w8.heap.size w8) hg2; replace HF := Aside0.mk (HF.out.below' hbb_); replace HM := Aside0.mk (HM.out.step hbb_); skip; obtain ⟨g11, hq_⟩ : ∃ g_, g_ = w8.heap.size := ⟨_, rfl⟩; have Ng11 := Aside0.mk (show g11 ≠ gf from by rw [hq_]; exact NW.out); rw [← hq_] at hb2; rw [← hq_]; have Bg11 := Aside0.mk hb2; clear hb2 hg2 hq_ hbb_ NW; have dg11_0 := (blk_cell Bg11.out 0).trans rfl; have dg11_1 := (blk_cell Bg11.out 1).trans rfl; have c3_0 := (blk_cell B3.out 0).trans rfl; have c3_1 := (blk_cell B3.out 1).trans rfl; have c3_2 := (blk_cell B3.out 2).trans rfl; have c3_3 := (blk_cell B3.out 3).trans rfl; have c3_4 := (blk_cell B3.out 4).trans rfl; have dg10_0 := (blk_cell Bg10.out 0).trans rfl; have dg10_1 := (blk_cell Bg10.out 1).trans rfl)
   refine (hbn _).mono ?_
   rintro e_ w10 ⟨rfl, rfl⟩
   clear hbn c3_0 c3_1 c3_2 c3_3 c3_4
   have c3_0 := (blk_cell B3.out 0).trans rfl; have c3_1 := (blk_cell B3.out 1).trans rfl; have c3_2 := (blk_cell B3.out 2).trans rfl; have c3_3 := (blk_cell B3.out 3).trans rfl; have c3_4 := (blk_cell B3.out 4).trans rfl
   go_wp2_with ((with_reducible refine gate_store (t := 93) (p := 4) rfl ?_); refine store_whole rfl rfl 93 _ _ rfl g4 _ 93 rfl B4.out _ rfl rfl rfl (by simp [Value.oneCell']) ?_; intro wz hb6 hg6; replace HM := Aside0.mk (HM.out.fresh hg6 HL.out.1 HL.out.2); replace B4 := Aside0.mk hb6; clear hb6 hg6)
   (try simp only [Exit.inBlock, Exit.then])
   refine bodyPost_ret (results_cell_row rfl _ _ g4 93 _ (0, 0) _ rfl B4.out Tryz.underlying93 rfl (by kernel_rfl)) rfl ?_
   exact ⟨by rw [HC.out]; rfl, by rw [← Bool.or_assoc]; exact HM.out⟩
  | true =>
   by_cases he : e = 0
   ·subst he
    have HC := Aside0.mk (show binC nm (va, true) (vb, true) = (u, true) by unfold binC; rw [hu]; exact if_pos ⟨rfl, rfl, rfl⟩)
    clear hu
    have HF := Aside0.mk hF; have G4 := Aside0.mk g4
    have NG := Aside0.mk (show gf < w.heap.size from hF.lts.1)
    clear hF g4
    go_enter Tryz.func113, Tryz.ntmps113
    go_upto_region 1 with fail
    have hs := start2 w (.cells #[.int .i64 6, .string nm, .int .i64 nn, .slice A3 xs.length c3, .slice A4 2 c4] 38) (.cells #[.bool false, .int .i64 0] 93)
    have HL := Aside0.mk (show w.heap.size ≤ w.heap.size + 1 ∧ gf ≠ w.heap.size + 1 from by have := NG.out; omega)
    have N3 := Aside0.mk (show w.heap.size ≠ gf from by have := NG.out; omega)
    generalize (w.alloc (.cells #[.int .i64 6, .string nm, .int .i64 nn, .slice A3 xs.length c3, .slice A4 2 c4] 38)).alloc (.cells #[.bool false, .int .i64 0] 93) = w5 at hs ⊢
    obtain ⟨b3, b4, hb⟩ := hs
    have HM := Aside0.mk (MarkT.below (g := g) (gf := gf) (base := base) (b0 := bad) hb)
    replace HF := Aside0.mk (HF.out.marked HM.out)
    clear hb
    generalize w.heap.size + 1 = g4 at b4 HL ⊢
    obtain ⟨g3, hq⟩ : ∃ g3, w.heap.size = g3 := ⟨_, rfl⟩
    rw [hq] at b3 N3 ⊢
    clear hq
    have B3 := Aside0.mk b3; have B4 := Aside0.mk b4; clear b3 b4
    have c3_0 := (blk_cell B3.out 0).trans rfl
    have c3_1 := (blk_cell B3.out 1).trans rfl
    have c3_2 := (blk_cell B3.out 2).trans rfl
    have c3_3 := (blk_cell B3.out 3).trans rfl
    have c3_4 := (blk_cell B3.out 4).trans rfl
    obtain ⟨aad, aA3, ac3, aA4, ac4, ea, aK, ax0, ax1, ax2, ax3, ax4⟩ := kid_cells HF.out.run.below G4.out 0 (by simp) a rfl
    obtain rfl := ea
    simp only [Nat.zero_mul, Nat.one_mul, Nat.reduceMul, Nat.add_zero, add_zero'] at ax0 ax1 ax2 ax3 ax4
    try simp only [add_pos _ _ (show (5 : Nat) ≠ 0 by decide), add_pos _ _ (show (10 : Nat) ≠ 0 by decide)] at ax0 ax1 ax2 ax3 ax4
    have HaK := Aside0.mk aK
    clear aK
    have hca := rv_at iha hva _ HaK.out (bad)
    go_wp2_with fail
    refine (hca _ HF.out).mono ?_
    rintro e w6 ⟨rfl, hm⟩
    replace B3 := Aside0.mk (hm.blk B3.out N3.out)
    replace B4 := Aside0.mk (hm.blk B4.out (Ne.symm HL.out.2))
    replace HM := Aside0.mk (HM.out.trans hm)
    replace HF := Aside0.mk (HF.out.marked hm)
    have NW := Aside0.mk (show w6.heap.size ≠ gf from by have := HF.out.lts.1; omega)
    clear hm hca
    clear c3_0 c3_1 c3_2 c3_3 c3_4
    clear ax0 ax1 ax2 ax3 ax4
    go_wp2_with ((with_reducible refine gate_store (t := 93) (p := 10) rfl ?_); refine store_whole rfl rfl 93 _ _ rfl w6.heap.size _ 93 rfl (blk_new _ _) _ rfl rfl rfl (by simp [Value.oneCell']) ?_; intro w2 hb2 hg2; replace B3 := Aside0.mk (blk_as B3.out hg2); replace B4 := Aside0.mk (blk_as B4.out hg2); have hbb_ := below_as (Below.refl w6.heap.size w6) hg2; replace HF := Aside0.mk (HF.out.below' hbb_); replace HM := Aside0.mk (HM.out.step hbb_); skip; obtain ⟨g10, hq_⟩ : ∃ g_, g_ = w6.heap.size := ⟨_, rfl⟩; have Ng10 := Aside0.mk (show g10 ≠ gf from by rw [hq_]; exact NW.out); rw [← hq_] at hb2; rw [← hq_]; have Bg10 := Aside0.mk hb2; clear hb2 hg2 hq_ hbb_ NW; have dg10_0 := (blk_cell Bg10.out 0).trans rfl; have dg10_1 := (blk_cell Bg10.out 1).trans rfl; have c3_0 := (blk_cell B3.out 0).trans rfl; have c3_1 := (blk_cell B3.out 1).trans rfl; have c3_2 := (blk_cell B3.out 2).trans rfl; have c3_3 := (blk_cell B3.out 3).trans rfl; have c3_4 := (blk_cell B3.out 4).trans rfl; obtain ⟨bad, bA3, bc3, bA4, bc4, eb, bK, bx0, bx1, bx2, bx3, bx4⟩ := kid_cells HF.out.run.below G4.out 1 (by simp) b rfl; injection eb with eb; subst eb; simp only [Nat.zero_mul, Nat.one_mul, Nat.reduceMul, Nat.add_zero, add_zero'] at bx0 bx1 bx2 bx3 bx4; try simp only [add_pos _ _ (show (5 : Nat) ≠ 0 by decide), add_pos _ _ (show (10 : Nat) ≠ 0 by decide)] at bx0 bx1 bx2 bx3 bx4; have HbK := Aside0.mk bK; clear bK)
    have hcb := rv_at ihb hvb _ HbK.out (bad || valT m base f a)
    skip
    refine (hcb _ HF.out).mono ?_
    rintro e w8 ⟨rfl, hm⟩
    replace B3 := Aside0.mk (hm.blk B3.out N3.out)
    replace B4 := Aside0.mk (hm.blk B4.out (Ne.symm HL.out.2))
    replace Bg10 := Aside0.mk (hm.blk Bg10.out Ng10.out)
    replace HM := Aside0.mk (HM.out.trans hm)
    replace HF := Aside0.mk (HF.out.marked hm)
    have NW := Aside0.mk (show w8.heap.size ≠ gf from by have := HF.out.lts.1; omega)
    clear hm hcb
    clear c3_0 c3_1 c3_2 c3_3 c3_4
    clear bx0 bx1 bx2 bx3 bx4
    clear dg10_0 dg10_1
    go_wp2_with ((with_reducible refine gate_store (t := 93) (p := 11) rfl ?_); refine store_whole rfl rfl 93 _ _ rfl w8.heap.size _ 93 rfl (blk_new _ _) _ rfl rfl rfl (by simp [Value.oneCell']) ?_; intro w2 hb2 hg2; replace B3 := Aside0.mk (blk_as B3.out hg2); replace B4 := Aside0.mk (blk_as B4.out hg2); replace Bg10 := Aside0.mk (blk_as Bg10.out hg2); have hbb_ := below_as (Below.refl w8.heap.size w8) hg2; replace HF := Aside0.mk (HF.out.below' hbb_); replace HM := Aside0.mk (HM.out.step hbb_); skip; obtain ⟨g11, hq_⟩ : ∃ g_, g_ = w8.heap.size := ⟨_, rfl⟩; have Ng11 := Aside0.mk (show g11 ≠ gf from by rw [hq_]; exact NW.out); rw [← hq_] at hb2; rw [← hq_]; have Bg11 := Aside0.mk hb2; clear hb2 hg2 hq_ hbb_ NW; have dg11_0 := (blk_cell Bg11.out 0).trans rfl; have dg11_1 := (blk_cell Bg11.out 1).trans rfl; have c3_0 := (blk_cell B3.out 0).trans rfl; have c3_1 := (blk_cell B3.out 1).trans rfl; have c3_2 := (blk_cell B3.out 2).trans rfl; have c3_3 := (blk_cell B3.out 3).trans rfl; have c3_4 := (blk_cell B3.out 4).trans rfl; have dg10_0 := (blk_cell Bg10.out 0).trans rfl; have dg10_1 := (blk_cell Bg10.out 1).trans rfl)
    refine (hbn _).mono ?_
    rintro e_ w10 ⟨rfl, rfl⟩
    clear hbn c3_0 c3_1 c3_2 c3_3 c3_4
    have c3_0 := (blk_cell B3.out 0).trans rfl; have c3_1 := (blk_cell B3.out 1).trans rfl; have c3_2 := (blk_cell B3.out 2).trans rfl; have c3_3 := (blk_cell B3.out 3).trans rfl; have c3_4 := (blk_cell B3.out 4).trans rfl
    go_wp2_with ((with_reducible refine gate_store (t := 93) (p := 4) rfl ?_); refine store_whole rfl rfl 93 _ _ rfl g4 _ 93 rfl B4.out _ rfl rfl rfl (by simp [Value.oneCell']) ?_; intro wz hb6 hg6; replace HM := Aside0.mk (HM.out.fresh hg6 HL.out.1 HL.out.2); replace B4 := Aside0.mk hb6; clear hb6 hg6)
    (try simp only [Exit.inBlock, Exit.then])
    refine bodyPost_ret (results_cell_row rfl _ _ g4 93 _ (0, 0) _ rfl B4.out Tryz.underlying93 rfl (by kernel_rfl)) rfl ?_
    exact ⟨by rw [HC.out]; rfl, by rw [← Bool.or_assoc]; exact HM.out⟩
   ·have HC := Aside0.mk (show binC nm (va, true) (vb, true) = nilC by unfold binC; rw [hu]; exact if_neg (fun h => he h.2.2))
    have te : (e == (0 : Int)) = false := ne_bool he
    clear hu he
    have HF := Aside0.mk hF; have G4 := Aside0.mk g4
    have NG := Aside0.mk (show gf < w.heap.size from hF.lts.1)
    clear hF g4
    go_enter Tryz.func113, Tryz.ntmps113
    go_upto_region 1 with fail
    have hs := start2 w (.cells #[.int .i64 6, .string nm, .int .i64 nn, .slice A3 xs.length c3, .slice A4 2 c4] 38) (.cells #[.bool false, .int .i64 0] 93)
    have HL := Aside0.mk (show w.heap.size ≤ w.heap.size + 1 ∧ gf ≠ w.heap.size + 1 from by have := NG.out; omega)
    have N3 := Aside0.mk (show w.heap.size ≠ gf from by have := NG.out; omega)
    generalize (w.alloc (.cells #[.int .i64 6, .string nm, .int .i64 nn, .slice A3 xs.length c3, .slice A4 2 c4] 38)).alloc (.cells #[.bool false, .int .i64 0] 93) = w5 at hs ⊢
    obtain ⟨b3, b4, hb⟩ := hs
    have HM := Aside0.mk (MarkT.below (g := g) (gf := gf) (base := base) (b0 := bad) hb)
    replace HF := Aside0.mk (HF.out.marked HM.out)
    clear hb
    generalize w.heap.size + 1 = g4 at b4 HL ⊢
    obtain ⟨g3, hq⟩ : ∃ g3, w.heap.size = g3 := ⟨_, rfl⟩
    rw [hq] at b3 N3 ⊢
    clear hq
    have B3 := Aside0.mk b3; have B4 := Aside0.mk b4; clear b3 b4
    have c3_0 := (blk_cell B3.out 0).trans rfl
    have c3_1 := (blk_cell B3.out 1).trans rfl
    have c3_2 := (blk_cell B3.out 2).trans rfl
    have c3_3 := (blk_cell B3.out 3).trans rfl
    have c3_4 := (blk_cell B3.out 4).trans rfl
    obtain ⟨aad, aA3, ac3, aA4, ac4, ea, aK, ax0, ax1, ax2, ax3, ax4⟩ := kid_cells HF.out.run.below G4.out 0 (by simp) a rfl
    obtain rfl := ea
    simp only [Nat.zero_mul, Nat.one_mul, Nat.reduceMul, Nat.add_zero, add_zero'] at ax0 ax1 ax2 ax3 ax4
    try simp only [add_pos _ _ (show (5 : Nat) ≠ 0 by decide), add_pos _ _ (show (10 : Nat) ≠ 0 by decide)] at ax0 ax1 ax2 ax3 ax4
    have HaK := Aside0.mk aK
    clear aK
    have hca := rv_at iha hva _ HaK.out (bad)
    go_wp2_with fail
    refine (hca _ HF.out).mono ?_
    rintro e w6 ⟨rfl, hm⟩
    replace B3 := Aside0.mk (hm.blk B3.out N3.out)
    replace B4 := Aside0.mk (hm.blk B4.out (Ne.symm HL.out.2))
    replace HM := Aside0.mk (HM.out.trans hm)
    replace HF := Aside0.mk (HF.out.marked hm)
    have NW := Aside0.mk (show w6.heap.size ≠ gf from by have := HF.out.lts.1; omega)
    clear hm hca
    clear c3_0 c3_1 c3_2 c3_3 c3_4
    clear ax0 ax1 ax2 ax3 ax4
    go_wp2_with ((with_reducible refine gate_store (t := 93) (p := 10) rfl ?_); refine store_whole rfl rfl 93 _ _ rfl w6.heap.size _ 93 rfl (blk_new _ _) _ rfl rfl rfl (by simp [Value.oneCell']) ?_; intro w2 hb2 hg2; replace B3 := Aside0.mk (blk_as B3.out hg2); replace B4 := Aside0.mk (blk_as B4.out hg2); have hbb_ := below_as (Below.refl w6.heap.size w6) hg2; replace HF := Aside0.mk (HF.out.below' hbb_); replace HM := Aside0.mk (HM.out.step hbb_); skip; obtain ⟨g10, hq_⟩ : ∃ g_, g_ = w6.heap.size := ⟨_, rfl⟩; have Ng10 := Aside0.mk (show g10 ≠ gf from by rw [hq_]; exact NW.out); rw [← hq_] at hb2; rw [← hq_]; have Bg10 := Aside0.mk hb2; clear hb2 hg2 hq_ hbb_ NW; have dg10_0 := (blk_cell Bg10.out 0).trans rfl; have dg10_1 := (blk_cell Bg10.out 1).trans rfl; have c3_0 := (blk_cell B3.out 0).trans rfl; have c3_1 := (blk_cell B3.out 1).trans rfl; have c3_2 := (blk_cell B3.out 2).trans rfl; have c3_3 := (blk_cell B3.out 3).trans rfl; have c3_4 := (blk_cell B3.out 4).trans rfl; obtain ⟨bad, bA3, bc3, bA4, bc4, eb, bK, bx0, bx1, bx2, bx3, bx4⟩ := kid_cells HF.out.run.below G4.out 1 (by simp) b rfl; injection eb with eb; subst eb; simp only [Nat.zero_mul, Nat.one_mul, Nat.reduceMul, Nat.add_zero, add_zero'] at bx0 bx1 bx2 bx3 bx4; try simp only [add_pos _ _ (show (5 : Nat) ≠ 0 by decide), add_pos _ _ (show (10 : Nat) ≠ 0 by decide)] at bx0 bx1 bx2 bx3 bx4; have HbK := Aside0.mk bK; clear bK)
    have hcb := rv_at ihb hvb _ HbK.out (bad || valT m base f a)
    skip
    refine (hcb _ HF.out).mono ?_
    rintro e w8 ⟨rfl, hm⟩
    replace B3 := Aside0.mk (hm.blk B3.out N3.out)
    replace B4 := Aside0.mk (hm.blk B4.out (Ne.symm HL.out.2))
    replace Bg10 := Aside0.mk (hm.blk Bg10.out Ng10.out)
    replace HM := Aside0.mk (HM.out.trans hm)
    replace HF := Aside0.mk (HF.out.marked hm)
    have NW := Aside0.mk (show w8.heap.size ≠ gf from by have := HF.out.lts.1; omega)
    clear hm hcb
    clear c3_0 c3_1 c3_2 c3_3 c3_4
    clear bx0 bx1 bx2 bx3 bx4
    clear dg10_0 dg10_1
    go_wp2_with ((with_reducible refine gate_store (t := 93) (p := 11) rfl ?_); refine store_whole rfl rfl 93 _ _ rfl w8.heap.size _ 93 rfl (blk_new _ _) _ rfl rfl rfl (by simp [Value.oneCell']) ?_; intro w2 hb2 hg2; replace B3 := Aside0.mk (blk_as B3.out hg2); replace B4 := Aside0.mk (blk_as B4.out hg2); replace Bg10 := Aside0.mk (blk_as Bg10.out hg2); have hbb_ := below_as (Below.refl w8.heap.size w8) hg2; replace HF := Aside0.mk (HF.out.below' hbb_); replace HM := Aside0.mk (HM.out.step hbb_); skip; obtain ⟨g11, hq_⟩ : ∃ g_, g_ = w8.heap.size := ⟨_, rfl⟩; have Ng11 := Aside0.mk (show g11 ≠ gf from by rw [hq_]; exact NW.out); rw [← hq_] at hb2; rw [← hq_]; have Bg11 := Aside0.mk hb2; clear hb2 hg2 hq_ hbb_ NW; have dg11_0 := (blk_cell Bg11.out 0).trans rfl; have dg11_1 := (blk_cell Bg11.out 1).trans rfl; have c3_0 := (blk_cell B3.out 0).trans rfl; have c3_1 := (blk_cell B3.out 1).trans rfl; have c3_2 := (blk_cell B3.out 2).trans rfl; have c3_3 := (blk_cell B3.out 3).trans rfl; have c3_4 := (blk_cell B3.out 4).trans rfl; have dg10_0 := (blk_cell Bg10.out 0).trans rfl; have dg10_1 := (blk_cell Bg10.out 1).trans rfl)
    refine (hbn _).mono ?_
    rintro e_ w10 ⟨rfl, rfl⟩
    clear hbn c3_0 c3_1 c3_2 c3_3 c3_4
    have c3_0 := (blk_cell B3.out 0).trans rfl; have c3_1 := (blk_cell B3.out 1).trans rfl; have c3_2 := (blk_cell B3.out 2).trans rfl; have c3_3 := (blk_cell B3.out 3).trans rfl; have c3_4 := (blk_cell B3.out 4).trans rfl
    go_wp2_with ((with_reducible refine gate_store (t := 93) (p := 4) rfl ?_); refine store_whole rfl rfl 93 _ _ rfl g4 _ 93 rfl B4.out _ rfl rfl rfl (by simp [Value.oneCell']) ?_; intro wz hb6 hg6; replace HM := Aside0.mk (HM.out.fresh hg6 HL.out.1 HL.out.2); replace B4 := Aside0.mk hb6; clear hb6 hg6)
    (try simp only [Exit.inBlock, Exit.then])
    refine bodyPost_ret (results_cell_row rfl _ _ g4 93 _ (0, 0) _ rfl B4.out Tryz.underlying93 rfl (by kernel_rfl)) rfl ?_
    exact ⟨by rw [HC.out]; rfl, by rw [← Bool.or_assoc]; exact HM.out⟩
set_option maxHeartbeats 2000000 in
theorem rvalue_if (nn : Int) (nm : ByteArray) (xs : List ByteArray) (k a b : S38) (ihk : RValSays w0 g ma A c l N m tr cn gf base bv q f k) (iha : RValSays w0 g ma A c l N m tr cn gf base bv q f a) (ihb : RValSays w0 g ma A c l N m tr cn gf base bv q f b)  : RValSays w0 g ma A c l N m tr cn gf base bv q f ⟨7, nm, nn, xs, [k, a, b]⟩ := by
 intro w cs bad hF hK
 obtain ⟨A3, c3, A4, c4, rfl, g4⟩ := kE_open' hK
 clear hK
 obtain ⟨⟨vk, ok⟩, hvk⟩ : ∃ c, valN m base f k = c := ⟨_, rfl⟩
 cases ok with
 | false =>
  have hok : (valN m base f k).2 = false := by rw [hvk]
  rw [(if_off nm nn xs k a b hok).1, (if_off nm nn xs k a b hok).2]
  clear hok iha ihb
  have HF := Aside0.mk hF; have G4 := Aside0.mk g4
  have NG := Aside0.mk (show gf < w.heap.size from hF.lts.1)
  clear hF g4
  go_enter Tryz.func113, Tryz.ntmps113
  go_upto_region 1 with fail
  have hs := start2 w (.cells #[.int .i64 7, .string nm, .int .i64 nn, .slice A3 xs.length c3, .slice A4 3 c4] 38) (.cells #[.bool false, .int .i64 0] 93)
  have HL := Aside0.mk (show w.heap.size ≤ w.heap.size + 1 ∧ gf ≠ w.heap.size + 1 from by have := NG.out; omega)
  have N3 := Aside0.mk (show w.heap.size ≠ gf from by have := NG.out; omega)
  generalize (w.alloc (.cells #[.int .i64 7, .string nm, .int .i64 nn, .slice A3 xs.length c3, .slice A4 3 c4] 38)).alloc (.cells #[.bool false, .int .i64 0] 93) = w5 at hs ⊢
  obtain ⟨b3, b4, hb⟩ := hs
  have HM := Aside0.mk (MarkT.below (g := g) (gf := gf) (base := base) (b0 := bad) hb)
  replace HF := Aside0.mk (HF.out.marked HM.out)
  clear hb
  generalize w.heap.size + 1 = g4 at b4 HL ⊢
  obtain ⟨g3, hq⟩ : ∃ g3, w.heap.size = g3 := ⟨_, rfl⟩
  rw [hq] at b3 N3 ⊢
  clear hq
  have B3 := Aside0.mk b3; have B4 := Aside0.mk b4; clear b3 b4
  have c3_0 := (blk_cell B3.out 0).trans rfl
  have c3_1 := (blk_cell B3.out 1).trans rfl
  have c3_2 := (blk_cell B3.out 2).trans rfl
  have c3_3 := (blk_cell B3.out 3).trans rfl
  have c3_4 := (blk_cell B3.out 4).trans rfl
  obtain ⟨kad, kA3, kc3, kA4, kc4, ek, kK, kx0, kx1, kx2, kx3, kx4⟩ := kid_cells HF.out.run.below G4.out 0 (by simp) k rfl
  obtain rfl := ek
  simp only [Nat.zero_mul, Nat.one_mul, Nat.reduceMul, Nat.add_zero, add_zero'] at kx0 kx1 kx2 kx3 kx4
  try simp only [add_pos _ _ (show (5 : Nat) ≠ 0 by decide), add_pos _ _ (show (10 : Nat) ≠ 0 by decide)] at kx0 kx1 kx2 kx3 kx4
  have HkK := Aside0.mk kK
  clear kK
  have hck := rv_at ihk hvk _ HkK.out (bad)
  go_wp2_with fail
  refine (hck _ HF.out).mono ?_
  rintro e w6 ⟨rfl, hm⟩
  replace B3 := Aside0.mk (hm.blk B3.out N3.out)
  replace B4 := Aside0.mk (hm.blk B4.out (Ne.symm HL.out.2))
  replace HM := Aside0.mk (HM.out.trans hm)
  replace HF := Aside0.mk (HF.out.marked hm)
  have NW := Aside0.mk (show w6.heap.size ≠ gf from by have := HF.out.lts.1; omega)
  clear hm hck
  clear c3_0 c3_1 c3_2 c3_3 c3_4
  clear kx0 kx1 kx2 kx3 kx4
  go_wp2_with (first | ((with_reducible refine gate_store (t := 93) (p := 4) rfl ?_); refine store_whole rfl rfl 93 _ _ rfl g4 _ 93 rfl B4.out _ rfl rfl rfl (by simp [Value.oneCell']) ?_; intro wz hb6 hg6; replace HM := Aside0.mk (HM.out.fresh hg6 HL.out.1 HL.out.2); replace B4 := Aside0.mk hb6; clear hb6 hg6) | ((with_reducible refine gate_store (t := 93) (p := 14) rfl ?_); refine store_whole rfl rfl 93 _ _ rfl w6.heap.size _ 93 rfl (blk_new _ _) _ rfl rfl rfl (by simp [Value.oneCell']) ?_; intro w2 hb2 hg2; replace B3 := Aside0.mk (blk_as B3.out hg2); replace B4 := Aside0.mk (blk_as B4.out hg2); have hbb_ := below_as (Below.refl w6.heap.size w6) hg2; replace HF := Aside0.mk (HF.out.below' hbb_); replace HM := Aside0.mk (HM.out.step hbb_); skip; obtain ⟨g14, hq_⟩ : ∃ g_, g_ = w6.heap.size := ⟨_, rfl⟩; have Ng14 := Aside0.mk (show g14 ≠ gf from by rw [hq_]; exact NW.out); rw [← hq_] at hb2; rw [← hq_]; have Bg14 := Aside0.mk hb2; clear hb2 hg2 hq_ hbb_ NW; have dg14_0 := (blk_cell Bg14.out 0).trans rfl; have dg14_1 := (blk_cell Bg14.out 1).trans rfl; have c3_0 := (blk_cell B3.out 0).trans rfl; have c3_1 := (blk_cell B3.out 1).trans rfl; have c3_2 := (blk_cell B3.out 2).trans rfl; have c3_3 := (blk_cell B3.out 3).trans rfl; have c3_4 := (blk_cell B3.out 4).trans rfl))
  (try simp only [Exit.inBlock, Exit.then])
  refine bodyPost_ret (results_cell_row rfl _ _ g4 93 _ (0, 0) _ rfl B4.out Tryz.underlying93 rfl (by kernel_rfl)) rfl ?_
  exact ⟨rfl, HM.out⟩
 | true =>
  have hok : (valN m base f k).2 = true := by rw [hvk]
  have h1 := if_on nm nn xs k a b hok
  rw [hvk] at h1
  simp only [] at h1
  clear hok
  by_cases h0 : vk = 0
  ·rw [if_pos h0] at h1
   have t0 : (vk != 0) = false := by rw [h0]; rfl
   clear h0
   rw [h1.1, h1.2]
   clear h1
   obtain ⟨⟨vb, ob⟩, hvb⟩ : ∃ c, valN m base f b = c := ⟨_, rfl⟩
   rw [hvb]
   have HF := Aside0.mk hF; have G4 := Aside0.mk g4
   have NG := Aside0.mk (show gf < w.heap.size from hF.lts.1)
   clear hF g4
   go_enter Tryz.func113, Tryz.ntmps113
   go_upto_region 1 with fail
   have hs := start2 w (.cells #[.int .i64 7, .string nm, .int .i64 nn, .slice A3 xs.length c3, .slice A4 3 c4] 38) (.cells #[.bool false, .int .i64 0] 93)
   have HL := Aside0.mk (show w.heap.size ≤ w.heap.size + 1 ∧ gf ≠ w.heap.size + 1 from by have := NG.out; omega)
   have N3 := Aside0.mk (show w.heap.size ≠ gf from by have := NG.out; omega)
   generalize (w.alloc (.cells #[.int .i64 7, .string nm, .int .i64 nn, .slice A3 xs.length c3, .slice A4 3 c4] 38)).alloc (.cells #[.bool false, .int .i64 0] 93) = w5 at hs ⊢
   obtain ⟨b3, b4, hb⟩ := hs
   have HM := Aside0.mk (MarkT.below (g := g) (gf := gf) (base := base) (b0 := bad) hb)
   replace HF := Aside0.mk (HF.out.marked HM.out)
   clear hb
   generalize w.heap.size + 1 = g4 at b4 HL ⊢
   obtain ⟨g3, hq⟩ : ∃ g3, w.heap.size = g3 := ⟨_, rfl⟩
   rw [hq] at b3 N3 ⊢
   clear hq
   have B3 := Aside0.mk b3; have B4 := Aside0.mk b4; clear b3 b4
   have c3_0 := (blk_cell B3.out 0).trans rfl
   have c3_1 := (blk_cell B3.out 1).trans rfl
   have c3_2 := (blk_cell B3.out 2).trans rfl
   have c3_3 := (blk_cell B3.out 3).trans rfl
   have c3_4 := (blk_cell B3.out 4).trans rfl
   obtain ⟨kad, kA3, kc3, kA4, kc4, ek, kK, kx0, kx1, kx2, kx3, kx4⟩ := kid_cells HF.out.run.below G4.out 0 (by simp) k rfl
   obtain rfl := ek
   simp only [Nat.zero_mul, Nat.one_mul, Nat.reduceMul, Nat.add_zero, add_zero'] at kx0 kx1 kx2 kx3 kx4
   try simp only [add_pos _ _ (show (5 : Nat) ≠ 0 by decide), add_pos _ _ (show (10 : Nat) ≠ 0 by decide)] at kx0 kx1 kx2 kx3 kx4
   have HkK := Aside0.mk kK
   clear kK
   have hck := rv_at ihk hvk _ HkK.out (bad)
   go_wp2_with fail
   refine (hck _ HF.out).mono ?_
   rintro e w6 ⟨rfl, hm⟩
   replace B3 := Aside0.mk (hm.blk B3.out N3.out)
   replace B4 := Aside0.mk (hm.blk B4.out (Ne.symm HL.out.2))
   replace HM := Aside0.mk (HM.out.trans hm)
   replace HF := Aside0.mk (HF.out.marked hm)
   have NW := Aside0.mk (show w6.heap.size ≠ gf from by have := HF.out.lts.1; omega)
   clear hm hck
   clear c3_0 c3_1 c3_2 c3_3 c3_4
   clear kx0 kx1 kx2 kx3 kx4
   go_wp2_with ((with_reducible refine gate_store (t := 93) (p := 14) rfl ?_); refine store_whole rfl rfl 93 _ _ rfl w6.heap.size _ 93 rfl (blk_new _ _) _ rfl rfl rfl (by simp [Value.oneCell']) ?_; intro w2 hb2 hg2; replace B3 := Aside0.mk (blk_as B3.out hg2); replace B4 := Aside0.mk (blk_as B4.out hg2); have hbb_ := below_as (Below.refl w6.heap.size w6) hg2; replace HF := Aside0.mk (HF.out.below' hbb_); replace HM := Aside0.mk (HM.out.step hbb_); skip; obtain ⟨g14, hq_⟩ : ∃ g_, g_ = w6.heap.size := ⟨_, rfl⟩; have Ng14 := Aside0.mk (show g14 ≠ gf from by rw [hq_]; exact NW.out); rw [← hq_] at hb2; rw [← hq_]; have Bg14 := Aside0.mk hb2; clear hb2 hg2 hq_ hbb_ NW; have dg14_0 := (blk_cell Bg14.out 0).trans rfl; have dg14_1 := (blk_cell Bg14.out 1).trans rfl; have c3_0 := (blk_cell B3.out 0).trans rfl; have c3_1 := (blk_cell B3.out 1).trans rfl; have c3_2 := (blk_cell B3.out 2).trans rfl; have c3_3 := (blk_cell B3.out 3).trans rfl; have c3_4 := (blk_cell B3.out 4).trans rfl; obtain ⟨bad, bA3, bc3, bA4, bc4, eb, bK, bx0, bx1, bx2, bx3, bx4⟩ := kid_cells HF.out.run.below G4.out 2 (by simp) b rfl; injection eb with eb; subst eb; simp only [Nat.zero_mul, Nat.one_mul, Nat.reduceMul, Nat.add_zero, add_zero'] at bx0 bx1 bx2 bx3 bx4; try simp only [add_pos _ _ (show (5 : Nat) ≠ 0 by decide), add_pos _ _ (show (10 : Nat) ≠ 0 by decide)] at bx0 bx1 bx2 bx3 bx4; have HbK := Aside0.mk bK; clear bK)
   have hcb := rv_at ihb hvb _ HbK.out (bad || valT m base f k)
   skip
   refine (hcb _ HF.out).mono ?_
   rintro e w8 ⟨rfl, hm⟩
   replace B4 := Aside0.mk (hm.blk B4.out (Ne.symm HL.out.2))
   replace HM := Aside0.mk (HM.out.trans hm)
   replace HF := Aside0.mk (HF.out.marked hm)
   have NW := Aside0.mk (show w8.heap.size ≠ gf from by have := HF.out.lts.1; omega)
   clear hm hcb
   clear c3_0 c3_1 c3_2 c3_3 c3_4
   clear bx0 bx1 bx2 bx3 bx4
   clear dg14_0 dg14_1
   go_wp2_with (first | ((with_reducible refine gate_store (t := 93) (p := 16) rfl ?_); refine store_whole rfl rfl 93 _ _ rfl w8.heap.size _ 93 rfl (blk_new _ _) _ rfl rfl rfl (by simp [Value.oneCell']) ?_; intro w2 hb2 hg2; replace B4 := Aside0.mk (blk_as B4.out hg2); have hbb_ := below_as (Below.refl w8.heap.size w8) hg2; replace HF := Aside0.mk (HF.out.below' hbb_); replace HM := Aside0.mk (HM.out.step hbb_); skip; obtain ⟨g16, hq_⟩ : ∃ g_, g_ = w8.heap.size := ⟨_, rfl⟩; have Ng16 := Aside0.mk (show g16 ≠ gf from by rw [hq_]; exact NW.out); rw [← hq_] at hb2; rw [← hq_]; have Bg16 := Aside0.mk hb2; clear hb2 hg2 hq_ hbb_ NW; have dg16_0 := (blk_cell Bg16.out 0).trans rfl; have dg16_1 := (blk_cell Bg16.out 1).trans rfl; skip) | ((with_reducible refine gate_store (t := 93) (p := 4) rfl ?_); refine store_whole rfl rfl 93 _ _ rfl g4 _ 93 rfl B4.out _ rfl rfl rfl (by simp [Value.oneCell']) ?_; intro wz hb6 hg6; replace HM := Aside0.mk (HM.out.fresh hg6 HL.out.1 HL.out.2); replace B4 := Aside0.mk hb6; clear hb6 hg6))
   (try simp only [Exit.inBlock, Exit.then])
   refine bodyPost_ret (results_cell_row rfl _ _ g4 93 _ (0, 0) _ rfl B4.out Tryz.underlying93 rfl (by kernel_rfl)) rfl ?_
   exact ⟨rfl, by rw [← Bool.or_assoc]; exact HM.out⟩
  ·rw [if_neg h0] at h1
   have t0 : (vk != 0) = true := by rw [bne, ne_bool h0]; rfl
   clear h0
   rw [h1.1, h1.2]
   clear h1
   obtain ⟨⟨va, oa⟩, hva⟩ : ∃ c, valN m base f a = c := ⟨_, rfl⟩
   rw [hva]
   have HF := Aside0.mk hF; have G4 := Aside0.mk g4
   have NG := Aside0.mk (show gf < w.heap.size from hF.lts.1)
   clear hF g4
   go_enter Tryz.func113, Tryz.ntmps113
   go_upto_region 1 with fail
   have hs := start2 w (.cells #[.int .i64 7, .string nm, .int .i64 nn, .slice A3 xs.length c3, .slice A4 3 c4] 38) (.cells #[.bool false, .int .i64 0] 93)
   have HL := Aside0.mk (show w.heap.size ≤ w.heap.size + 1 ∧ gf ≠ w.heap.size + 1 from by have := NG.out; omega)
   have N3 := Aside0.mk (show w.heap.size ≠ gf from by have := NG.out; omega)
   generalize (w.alloc (.cells #[.int .i64 7, .string nm, .int .i64 nn, .slice A3 xs.length c3, .slice A4 3 c4] 38)).alloc (.cells #[.bool false, .int .i64 0] 93) = w5 at hs ⊢
   obtain ⟨b3, b4, hb⟩ := hs
   have HM := Aside0.mk (MarkT.below (g := g) (gf := gf) (base := base) (b0 := bad) hb)
   replace HF := Aside0.mk (HF.out.marked HM.out)
   clear hb
   generalize w.heap.size + 1 = g4 at b4 HL ⊢
   obtain ⟨g3, hq⟩ : ∃ g3, w.heap.size = g3 := ⟨_, rfl⟩
   rw [hq] at b3 N3 ⊢
   clear hq
   have B3 := Aside0.mk b3; have B4 := Aside0.mk b4; clear b3 b4
   have c3_0 := (blk_cell B3.out 0).trans rfl
   have c3_1 := (blk_cell B3.out 1).trans rfl
   have c3_2 := (blk_cell B3.out 2).trans rfl
   have c3_3 := (blk_cell B3.out 3).trans rfl
   have c3_4 := (blk_cell B3.out 4).trans rfl
   obtain ⟨kad, kA3, kc3, kA4, kc4, ek, kK, kx0, kx1, kx2, kx3, kx4⟩ := kid_cells HF.out.run.below G4.out 0 (by simp) k rfl
   obtain rfl := ek
   simp only [Nat.zero_mul, Nat.one_mul, Nat.reduceMul, Nat.add_zero, add_zero'] at kx0 kx1 kx2 kx3 kx4
   try simp only [add_pos _ _ (show (5 : Nat) ≠ 0 by decide), add_pos _ _ (show (10 : Nat) ≠ 0 by decide)] at kx0 kx1 kx2 kx3 kx4
   have HkK := Aside0.mk kK
   clear kK
   have hck := rv_at ihk hvk _ HkK.out (bad)
   go_wp2_with fail
   refine (hck _ HF.out).mono ?_
   rintro e w6 ⟨rfl, hm⟩
   replace B3 := Aside0.mk (hm.blk B3.out N3.out)
   replace B4 := Aside0.mk (hm.blk B4.out (Ne.symm HL.out.2))
   replace HM := Aside0.mk (HM.out.trans hm)
   replace HF := Aside0.mk (HF.out.marked hm)
   have NW := Aside0.mk (show w6.heap.size ≠ gf from by have := HF.out.lts.1; omega)
   clear hm hck
   clear c3_0 c3_1 c3_2 c3_3 c3_4
   clear kx0 kx1 kx2 kx3 kx4
   go_wp2_with ((with_reducible refine gate_store (t := 93) (p := 14) rfl ?_); refine store_whole rfl rfl 93 _ _ rfl w6.heap.size _ 93 rfl (blk_new _ _) _ rfl rfl rfl (by simp [Value.oneCell']) ?_; intro w2 hb2 hg2; replace B3 := Aside0.mk (blk_as B3.out hg2); replace B4 := Aside0.mk (blk_as B4.out hg2); have hbb_ := below_as (Below.refl w6.heap.size w6) hg2; replace HF := Aside0.mk (HF.out.below' hbb_); replace HM := Aside0.mk (HM.out.step hbb_); skip; obtain ⟨g14, hq_⟩ : ∃ g_, g_ = w6.heap.size := ⟨_, rfl⟩; have Ng14 := Aside0.mk (show g14 ≠ gf from by rw [hq_]; exact NW.out); rw [← hq_] at hb2; rw [← hq_]; have Bg14 := Aside0.mk hb2; clear hb2 hg2 hq_ hbb_ NW; have dg14_0 := (blk_cell Bg14.out 0).trans rfl; have dg14_1 := (blk_cell Bg14.out 1).trans rfl; have c3_0 := (blk_cell B3.out 0).trans rfl; have c3_1 := (blk_cell B3.out 1).trans rfl; have c3_2 := (blk_cell B3.out 2).trans rfl; have c3_3 := (blk_cell B3.out 3).trans rfl; have c3_4 := (blk_cell B3.out 4).trans rfl; obtain ⟨aad, aA3, ac3, aA4, ac4, ea, aK, ax0, ax1, ax2, ax3, ax4⟩ := kid_cells HF.out.run.below G4.out 1 (by simp) a rfl; injection ea with ea; subst ea; simp only [Nat.zero_mul, Nat.one_mul, Nat.reduceMul, Nat.add_zero, add_zero'] at ax0 ax1 ax2 ax3 ax4; try simp only [add_pos _ _ (show (5 : Nat) ≠ 0 by decide), add_pos _ _ (show (10 : Nat) ≠ 0 by decide)] at ax0 ax1 ax2 ax3 ax4; have HaK := Aside0.mk aK; clear aK)
   have hca := rv_at iha hva _ HaK.out (bad || valT m base f k)
   skip
   refine (hca _ HF.out).mono ?_
   rintro e w8 ⟨rfl, hm⟩
   replace B4 := Aside0.mk (hm.blk B4.out (Ne.symm HL.out.2))
   replace HM := Aside0.mk (HM.out.trans hm)
   replace HF := Aside0.mk (HF.out.marked hm)
   have NW := Aside0.mk (show w8.heap.size ≠ gf from by have := HF.out.lts.1; omega)
   clear hm hca
   clear c3_0 c3_1 c3_2 c3_3 c3_4
   clear ax0 ax1 ax2 ax3 ax4
   clear dg14_0 dg14_1
   go_wp2_with (first | ((with_reducible refine gate_store (t := 93) (p := 16) rfl ?_); refine store_whole rfl rfl 93 _ _ rfl w8.heap.size _ 93 rfl (blk_new _ _) _ rfl rfl rfl (by simp [Value.oneCell']) ?_; intro w2 hb2 hg2; replace B4 := Aside0.mk (blk_as B4.out hg2); have hbb_ := below_as (Below.refl w8.heap.size w8) hg2; replace HF := Aside0.mk (HF.out.below' hbb_); replace HM := Aside0.mk (HM.out.step hbb_); skip; obtain ⟨g16, hq_⟩ : ∃ g_, g_ = w8.heap.size := ⟨_, rfl⟩; have Ng16 := Aside0.mk (show g16 ≠ gf from by rw [hq_]; exact NW.out); rw [← hq_] at hb2; rw [← hq_]; have Bg16 := Aside0.mk hb2; clear hb2 hg2 hq_ hbb_ NW; have dg16_0 := (blk_cell Bg16.out 0).trans rfl; have dg16_1 := (blk_cell Bg16.out 1).trans rfl; skip) | ((with_reducible refine gate_store (t := 93) (p := 4) rfl ?_); refine store_whole rfl rfl 93 _ _ rfl g4 _ 93 rfl B4.out _ rfl rfl rfl (by simp [Value.oneCell']) ?_; intro wz hb6 hg6; replace HM := Aside0.mk (HM.out.fresh hg6 HL.out.1 HL.out.2); replace B4 := Aside0.mk hb6; clear hb6 hg6))
   (try simp only [Exit.inBlock, Exit.then])
   refine bodyPost_ret (results_cell_row rfl _ _ g4 93 _ (0, 0) _ rfl B4.out Tryz.underlying93 rfl (by kernel_rfl)) rfl ?_
   exact ⟨rfl, by rw [← Bool.or_assoc]; exact HM.out⟩
set_option maxHeartbeats 2000000 in
theorem rvalue_mis1 (nn : Int) (nm : ByteArray) (xs : List ByteArray) (kids : List S38) (h : kids.length ≠ 0)  : RValSays w0 g ma A c l N m tr cn gf base bv q f ⟨1, nm, nn, xs, kids⟩ := by
 intro w cs bad hF hK
 obtain ⟨A3, c3, A4, c4, rfl, g4⟩ := kE_open' hK
 clear hK
 have hE : valE m base f ⟨1, nm, nn, xs, kids⟩ = some nilC := mis_E _ _ _ _ _ (fun e => h e.2) (fun e => absurd e.1 (by decide)) (fun e => absurd e.1 (by decide)) (fun e => absurd e.1 (by decide)) (fun e => absurd e.1 (by decide)) (fun e => absurd e.1 (by decide))
 rw [show valN m base f ⟨1, nm, nn, xs, kids⟩ = nilC by unfold valN; rw [hE]; rfl, show valT m base f ⟨1, nm, nn, xs, kids⟩ = false by unfold valT; rw [hE]; rfl, Bool.or_false]
 have t0 : ((kids.length : Int) == 0) = false := ne_bool (by omega)
 clear hE
 have HF := Aside0.mk hF; have G4 := Aside0.mk g4
 have NG := Aside0.mk (show gf < w.heap.size from hF.lts.1)
 clear hF g4
 go_enter Tryz.func113, Tryz.ntmps113
 go_upto_region 1 with fail
 have hs := start2 w (.cells #[.int .i64 1, .string nm, .int .i64 nn, .slice A3 xs.length c3, .slice A4 kids.length c4] 38) (.cells #[.bool false, .int .i64 0] 93)
 have HL := Aside0.mk (show w.heap.size ≤ w.heap.size + 1 ∧ gf ≠ w.heap.size + 1 from by have := NG.out; omega)
 have N3 := Aside0.mk (show w.heap.size ≠ gf from by have := NG.out; omega)
 generalize (w.alloc (.cells #[.int .i64 1, .string nm, .int .i64 nn, .slice A3 xs.length c3, .slice A4 kids.length c4] 38)).alloc (.cells #[.bool false, .int .i64 0] 93) = w5 at hs ⊢
 obtain ⟨b3, b4, hb⟩ := hs
 have HM := Aside0.mk (MarkT.below (g := g) (gf := gf) (base := base) (b0 := bad) hb)
 replace HF := Aside0.mk (HF.out.marked HM.out)
 clear hb
 generalize w.heap.size + 1 = g4 at b4 HL ⊢
 obtain ⟨g3, hq⟩ : ∃ g3, w.heap.size = g3 := ⟨_, rfl⟩
 rw [hq] at b3 N3 ⊢
 clear hq
 have B3 := Aside0.mk b3; have B4 := Aside0.mk b4; clear b3 b4
 have c3_0 := (blk_cell B3.out 0).trans rfl
 have c3_1 := (blk_cell B3.out 1).trans rfl
 have c3_2 := (blk_cell B3.out 2).trans rfl
 have c3_3 := (blk_cell B3.out 3).trans rfl
 have c3_4 := (blk_cell B3.out 4).trans rfl
 go_wp2_with ((with_reducible refine gate_store (t := 93) (p := 4) rfl ?_); refine store_whole rfl rfl 93 _ _ rfl g4 _ 93 rfl B4.out _ rfl rfl rfl (by simp [Value.oneCell']) ?_; intro wz hb6 hg6; replace HM := Aside0.mk (HM.out.fresh hg6 HL.out.1 HL.out.2); replace B4 := Aside0.mk hb6; clear hb6 hg6)
 (try simp only [Exit.inBlock, Exit.then])
 refine bodyPost_ret (results_cell_row rfl _ _ g4 93 _ (0, 0) _ rfl B4.out Tryz.underlying93 rfl (by kernel_rfl)) rfl ?_
 exact ⟨rfl, HM.out⟩
set_option maxHeartbeats 2000000 in
theorem rvalue_mis4 (nn : Int) (nm : ByteArray) (xs : List ByteArray) (kids : List S38) (h : kids.length ≠ 0)  : RValSays w0 g ma A c l N m tr cn gf base bv q f ⟨4, nm, nn, xs, kids⟩ := by
 intro w cs bad hF hK
 obtain ⟨A3, c3, A4, c4, rfl, g4⟩ := kE_open' hK
 clear hK
 have hE : valE m base f ⟨4, nm, nn, xs, kids⟩ = some nilC := mis_E _ _ _ _ _ (fun e => absurd e.1 (by decide)) (fun e => h e.2) (fun e => absurd e.1 (by decide)) (fun e => absurd e.1 (by decide)) (fun e => absurd e.1 (by decide)) (fun e => absurd e.1 (by decide))
 rw [show valN m base f ⟨4, nm, nn, xs, kids⟩ = nilC by unfold valN; rw [hE]; rfl, show valT m base f ⟨4, nm, nn, xs, kids⟩ = false by unfold valT; rw [hE]; rfl, Bool.or_false]
 have t0 : ((kids.length : Int) == 0) = false := ne_bool (by omega)
 clear hE
 have HF := Aside0.mk hF; have G4 := Aside0.mk g4
 have NG := Aside0.mk (show gf < w.heap.size from hF.lts.1)
 clear hF g4
 go_enter Tryz.func113, Tryz.ntmps113
 go_upto_region 1 with fail
 have hs := start2 w (.cells #[.int .i64 4, .string nm, .int .i64 nn, .slice A3 xs.length c3, .slice A4 kids.length c4] 38) (.cells #[.bool false, .int .i64 0] 93)
 have HL := Aside0.mk (show w.heap.size ≤ w.heap.size + 1 ∧ gf ≠ w.heap.size + 1 from by have := NG.out; omega)
 have N3 := Aside0.mk (show w.heap.size ≠ gf from by have := NG.out; omega)
 generalize (w.alloc (.cells #[.int .i64 4, .string nm, .int .i64 nn, .slice A3 xs.length c3, .slice A4 kids.length c4] 38)).alloc (.cells #[.bool false, .int .i64 0] 93) = w5 at hs ⊢
 obtain ⟨b3, b4, hb⟩ := hs
 have HM := Aside0.mk (MarkT.below (g := g) (gf := gf) (base := base) (b0 := bad) hb)
 replace HF := Aside0.mk (HF.out.marked HM.out)
 clear hb
 generalize w.heap.size + 1 = g4 at b4 HL ⊢
 obtain ⟨g3, hq⟩ : ∃ g3, w.heap.size = g3 := ⟨_, rfl⟩
 rw [hq] at b3 N3 ⊢
 clear hq
 have B3 := Aside0.mk b3; have B4 := Aside0.mk b4; clear b3 b4
 have c3_0 := (blk_cell B3.out 0).trans rfl
 have c3_1 := (blk_cell B3.out 1).trans rfl
 have c3_2 := (blk_cell B3.out 2).trans rfl
 have c3_3 := (blk_cell B3.out 3).trans rfl
 have c3_4 := (blk_cell B3.out 4).trans rfl
 go_wp2_with ((with_reducible refine gate_store (t := 93) (p := 4) rfl ?_); refine store_whole rfl rfl 93 _ _ rfl g4 _ 93 rfl B4.out _ rfl rfl rfl (by simp [Value.oneCell']) ?_; intro wz hb6 hg6; replace HM := Aside0.mk (HM.out.fresh hg6 HL.out.1 HL.out.2); replace B4 := Aside0.mk hb6; clear hb6 hg6)
 (try simp only [Exit.inBlock, Exit.then])
 refine bodyPost_ret (results_cell_row rfl _ _ g4 93 _ (0, 0) _ rfl B4.out Tryz.underlying93 rfl (by kernel_rfl)) rfl ?_
 exact ⟨rfl, HM.out⟩
set_option maxHeartbeats 2000000 in
theorem rvalue_mis16 (nn : Int) (nm : ByteArray) (xs : List ByteArray) (kids : List S38) (h : kids.length ≠ 0)  : RValSays w0 g ma A c l N m tr cn gf base bv q f ⟨16, nm, nn, xs, kids⟩ := by
 intro w cs bad hF hK
 obtain ⟨A3, c3, A4, c4, rfl, g4⟩ := kE_open' hK
 clear hK
 have hE : valE m base f ⟨16, nm, nn, xs, kids⟩ = some nilC := mis_E _ _ _ _ _ (fun e => absurd e.1 (by decide)) (fun e => absurd e.1 (by decide)) (fun e => h e.2) (fun e => absurd e.1 (by decide)) (fun e => absurd e.1 (by decide)) (fun e => absurd e.1 (by decide))
 rw [show valN m base f ⟨16, nm, nn, xs, kids⟩ = nilC by unfold valN; rw [hE]; rfl, show valT m base f ⟨16, nm, nn, xs, kids⟩ = false by unfold valT; rw [hE]; rfl, Bool.or_false]
 have t0 : ((kids.length : Int) == 0) = false := ne_bool (by omega)
 clear hE
 have HF := Aside0.mk hF; have G4 := Aside0.mk g4
 have NG := Aside0.mk (show gf < w.heap.size from hF.lts.1)
 clear hF g4
 go_enter Tryz.func113, Tryz.ntmps113
 go_upto_region 1 with fail
 have hs := start2 w (.cells #[.int .i64 16, .string nm, .int .i64 nn, .slice A3 xs.length c3, .slice A4 kids.length c4] 38) (.cells #[.bool false, .int .i64 0] 93)
 have HL := Aside0.mk (show w.heap.size ≤ w.heap.size + 1 ∧ gf ≠ w.heap.size + 1 from by have := NG.out; omega)
 have N3 := Aside0.mk (show w.heap.size ≠ gf from by have := NG.out; omega)
 generalize (w.alloc (.cells #[.int .i64 16, .string nm, .int .i64 nn, .slice A3 xs.length c3, .slice A4 kids.length c4] 38)).alloc (.cells #[.bool false, .int .i64 0] 93) = w5 at hs ⊢
 obtain ⟨b3, b4, hb⟩ := hs
 have HM := Aside0.mk (MarkT.below (g := g) (gf := gf) (base := base) (b0 := bad) hb)
 replace HF := Aside0.mk (HF.out.marked HM.out)
 clear hb
 generalize w.heap.size + 1 = g4 at b4 HL ⊢
 obtain ⟨g3, hq⟩ : ∃ g3, w.heap.size = g3 := ⟨_, rfl⟩
 rw [hq] at b3 N3 ⊢
 clear hq
 have B3 := Aside0.mk b3; have B4 := Aside0.mk b4; clear b3 b4
 have c3_0 := (blk_cell B3.out 0).trans rfl
 have c3_1 := (blk_cell B3.out 1).trans rfl
 have c3_2 := (blk_cell B3.out 2).trans rfl
 have c3_3 := (blk_cell B3.out 3).trans rfl
 have c3_4 := (blk_cell B3.out 4).trans rfl
 go_wp2_with ((with_reducible refine gate_store (t := 93) (p := 4) rfl ?_); refine store_whole rfl rfl 93 _ _ rfl g4 _ 93 rfl B4.out _ rfl rfl rfl (by simp [Value.oneCell']) ?_; intro wz hb6 hg6; replace HM := Aside0.mk (HM.out.fresh hg6 HL.out.1 HL.out.2); replace B4 := Aside0.mk hb6; clear hb6 hg6)
 (try simp only [Exit.inBlock, Exit.then])
 refine bodyPost_ret (results_cell_row rfl _ _ g4 93 _ (0, 0) _ rfl B4.out Tryz.underlying93 rfl (by kernel_rfl)) rfl ?_
 exact ⟨rfl, HM.out⟩
set_option maxHeartbeats 2000000 in
theorem rvalue_mis5 (nn : Int) (nm : ByteArray) (xs : List ByteArray) (kids : List S38) (h : kids.length ≠ 1)  : RValSays w0 g ma A c l N m tr cn gf base bv q f ⟨5, nm, nn, xs, kids⟩ := by
 intro w cs bad hF hK
 obtain ⟨A3, c3, A4, c4, rfl, g4⟩ := kE_open' hK
 clear hK
 have hE : valE m base f ⟨5, nm, nn, xs, kids⟩ = some nilC := mis_E _ _ _ _ _ (fun e => absurd e.1 (by decide)) (fun e => absurd e.1 (by decide)) (fun e => absurd e.1 (by decide)) (fun e => h e.2) (fun e => absurd e.1 (by decide)) (fun e => absurd e.1 (by decide))
 rw [show valN m base f ⟨5, nm, nn, xs, kids⟩ = nilC by unfold valN; rw [hE]; rfl, show valT m base f ⟨5, nm, nn, xs, kids⟩ = false by unfold valT; rw [hE]; rfl, Bool.or_false]
 have t0 : ((kids.length : Int) == 1) = false := ne_bool (by omega)
 clear hE
 have HF := Aside0.mk hF; have G4 := Aside0.mk g4
 have NG := Aside0.mk (show gf < w.heap.size from hF.lts.1)
 clear hF g4
 go_enter Tryz.func113, Tryz.ntmps113
 go_upto_region 1 with fail
 have hs := start2 w (.cells #[.int .i64 5, .string nm, .int .i64 nn, .slice A3 xs.length c3, .slice A4 kids.length c4] 38) (.cells #[.bool false, .int .i64 0] 93)
 have HL := Aside0.mk (show w.heap.size ≤ w.heap.size + 1 ∧ gf ≠ w.heap.size + 1 from by have := NG.out; omega)
 have N3 := Aside0.mk (show w.heap.size ≠ gf from by have := NG.out; omega)
 generalize (w.alloc (.cells #[.int .i64 5, .string nm, .int .i64 nn, .slice A3 xs.length c3, .slice A4 kids.length c4] 38)).alloc (.cells #[.bool false, .int .i64 0] 93) = w5 at hs ⊢
 obtain ⟨b3, b4, hb⟩ := hs
 have HM := Aside0.mk (MarkT.below (g := g) (gf := gf) (base := base) (b0 := bad) hb)
 replace HF := Aside0.mk (HF.out.marked HM.out)
 clear hb
 generalize w.heap.size + 1 = g4 at b4 HL ⊢
 obtain ⟨g3, hq⟩ : ∃ g3, w.heap.size = g3 := ⟨_, rfl⟩
 rw [hq] at b3 N3 ⊢
 clear hq
 have B3 := Aside0.mk b3; have B4 := Aside0.mk b4; clear b3 b4
 have c3_0 := (blk_cell B3.out 0).trans rfl
 have c3_1 := (blk_cell B3.out 1).trans rfl
 have c3_2 := (blk_cell B3.out 2).trans rfl
 have c3_3 := (blk_cell B3.out 3).trans rfl
 have c3_4 := (blk_cell B3.out 4).trans rfl
 go_wp2_with ((with_reducible refine gate_store (t := 93) (p := 4) rfl ?_); refine store_whole rfl rfl 93 _ _ rfl g4 _ 93 rfl B4.out _ rfl rfl rfl (by simp [Value.oneCell']) ?_; intro wz hb6 hg6; replace HM := Aside0.mk (HM.out.fresh hg6 HL.out.1 HL.out.2); replace B4 := Aside0.mk hb6; clear hb6 hg6)
 (try simp only [Exit.inBlock, Exit.then])
 refine bodyPost_ret (results_cell_row rfl _ _ g4 93 _ (0, 0) _ rfl B4.out Tryz.underlying93 rfl (by kernel_rfl)) rfl ?_
 exact ⟨rfl, HM.out⟩
set_option maxHeartbeats 2000000 in
theorem rvalue_mis6 (nn : Int) (nm : ByteArray) (xs : List ByteArray) (kids : List S38) (h : kids.length ≠ 2)  : RValSays w0 g ma A c l N m tr cn gf base bv q f ⟨6, nm, nn, xs, kids⟩ := by
 intro w cs bad hF hK
 obtain ⟨A3, c3, A4, c4, rfl, g4⟩ := kE_open' hK
 clear hK
 have hE : valE m base f ⟨6, nm, nn, xs, kids⟩ = some nilC := mis_E _ _ _ _ _ (fun e => absurd e.1 (by decide)) (fun e => absurd e.1 (by decide)) (fun e => absurd e.1 (by decide)) (fun e => absurd e.1 (by decide)) (fun e => h e.2) (fun e => absurd e.1 (by decide))
 rw [show valN m base f ⟨6, nm, nn, xs, kids⟩ = nilC by unfold valN; rw [hE]; rfl, show valT m base f ⟨6, nm, nn, xs, kids⟩ = false by unfold valT; rw [hE]; rfl, Bool.or_false]
 have t0 : ((kids.length : Int) == 2) = false := ne_bool (by omega)
 clear hE
 have HF := Aside0.mk hF; have G4 := Aside0.mk g4
 have NG := Aside0.mk (show gf < w.heap.size from hF.lts.1)
 clear hF g4
 go_enter Tryz.func113, Tryz.ntmps113
 go_upto_region 1 with fail
 have hs := start2 w (.cells #[.int .i64 6, .string nm, .int .i64 nn, .slice A3 xs.length c3, .slice A4 kids.length c4] 38) (.cells #[.bool false, .int .i64 0] 93)
 have HL := Aside0.mk (show w.heap.size ≤ w.heap.size + 1 ∧ gf ≠ w.heap.size + 1 from by have := NG.out; omega)
 have N3 := Aside0.mk (show w.heap.size ≠ gf from by have := NG.out; omega)
 generalize (w.alloc (.cells #[.int .i64 6, .string nm, .int .i64 nn, .slice A3 xs.length c3, .slice A4 kids.length c4] 38)).alloc (.cells #[.bool false, .int .i64 0] 93) = w5 at hs ⊢
 obtain ⟨b3, b4, hb⟩ := hs
 have HM := Aside0.mk (MarkT.below (g := g) (gf := gf) (base := base) (b0 := bad) hb)
 replace HF := Aside0.mk (HF.out.marked HM.out)
 clear hb
 generalize w.heap.size + 1 = g4 at b4 HL ⊢
 obtain ⟨g3, hq⟩ : ∃ g3, w.heap.size = g3 := ⟨_, rfl⟩
 rw [hq] at b3 N3 ⊢
 clear hq
 have B3 := Aside0.mk b3; have B4 := Aside0.mk b4; clear b3 b4
 have c3_0 := (blk_cell B3.out 0).trans rfl
 have c3_1 := (blk_cell B3.out 1).trans rfl
 have c3_2 := (blk_cell B3.out 2).trans rfl
 have c3_3 := (blk_cell B3.out 3).trans rfl
 have c3_4 := (blk_cell B3.out 4).trans rfl
 go_wp2_with ((with_reducible refine gate_store (t := 93) (p := 4) rfl ?_); refine store_whole rfl rfl 93 _ _ rfl g4 _ 93 rfl B4.out _ rfl rfl rfl (by simp [Value.oneCell']) ?_; intro wz hb6 hg6; replace HM := Aside0.mk (HM.out.fresh hg6 HL.out.1 HL.out.2); replace B4 := Aside0.mk hb6; clear hb6 hg6)
 (try simp only [Exit.inBlock, Exit.then])
 refine bodyPost_ret (results_cell_row rfl _ _ g4 93 _ (0, 0) _ rfl B4.out Tryz.underlying93 rfl (by kernel_rfl)) rfl ?_
 exact ⟨rfl, HM.out⟩
set_option maxHeartbeats 2000000 in
theorem rvalue_mis7 (nn : Int) (nm : ByteArray) (xs : List ByteArray) (kids : List S38) (h : kids.length ≠ 3)  : RValSays w0 g ma A c l N m tr cn gf base bv q f ⟨7, nm, nn, xs, kids⟩ := by
 intro w cs bad hF hK
 obtain ⟨A3, c3, A4, c4, rfl, g4⟩ := kE_open' hK
 clear hK
 have hE : valE m base f ⟨7, nm, nn, xs, kids⟩ = some nilC := mis_E _ _ _ _ _ (fun e => absurd e.1 (by decide)) (fun e => absurd e.1 (by decide)) (fun e => absurd e.1 (by decide)) (fun e => absurd e.1 (by decide)) (fun e => absurd e.1 (by decide)) (fun e => h e.2)
 rw [show valN m base f ⟨7, nm, nn, xs, kids⟩ = nilC by unfold valN; rw [hE]; rfl, show valT m base f ⟨7, nm, nn, xs, kids⟩ = false by unfold valT; rw [hE]; rfl, Bool.or_false]
 have t0 : ((kids.length : Int) == 3) = false := ne_bool (by omega)
 clear hE
 have HF := Aside0.mk hF; have G4 := Aside0.mk g4
 have NG := Aside0.mk (show gf < w.heap.size from hF.lts.1)
 clear hF g4
 go_enter Tryz.func113, Tryz.ntmps113
 go_upto_region 1 with fail
 have hs := start2 w (.cells #[.int .i64 7, .string nm, .int .i64 nn, .slice A3 xs.length c3, .slice A4 kids.length c4] 38) (.cells #[.bool false, .int .i64 0] 93)
 have HL := Aside0.mk (show w.heap.size ≤ w.heap.size + 1 ∧ gf ≠ w.heap.size + 1 from by have := NG.out; omega)
 have N3 := Aside0.mk (show w.heap.size ≠ gf from by have := NG.out; omega)
 generalize (w.alloc (.cells #[.int .i64 7, .string nm, .int .i64 nn, .slice A3 xs.length c3, .slice A4 kids.length c4] 38)).alloc (.cells #[.bool false, .int .i64 0] 93) = w5 at hs ⊢
 obtain ⟨b3, b4, hb⟩ := hs
 have HM := Aside0.mk (MarkT.below (g := g) (gf := gf) (base := base) (b0 := bad) hb)
 replace HF := Aside0.mk (HF.out.marked HM.out)
 clear hb
 generalize w.heap.size + 1 = g4 at b4 HL ⊢
 obtain ⟨g3, hq⟩ : ∃ g3, w.heap.size = g3 := ⟨_, rfl⟩
 rw [hq] at b3 N3 ⊢
 clear hq
 have B3 := Aside0.mk b3; have B4 := Aside0.mk b4; clear b3 b4
 have c3_0 := (blk_cell B3.out 0).trans rfl
 have c3_1 := (blk_cell B3.out 1).trans rfl
 have c3_2 := (blk_cell B3.out 2).trans rfl
 have c3_3 := (blk_cell B3.out 3).trans rfl
 have c3_4 := (blk_cell B3.out 4).trans rfl
 go_wp2_with ((with_reducible refine gate_store (t := 93) (p := 4) rfl ?_); refine store_whole rfl rfl 93 _ _ rfl g4 _ 93 rfl B4.out _ rfl rfl rfl (by simp [Value.oneCell']) ?_; intro wz hb6 hg6; replace HM := Aside0.mk (HM.out.fresh hg6 HL.out.1 HL.out.2); replace B4 := Aside0.mk hb6; clear hb6 hg6)
 (try simp only [Exit.inBlock, Exit.then])
 refine bodyPost_ret (results_cell_row rfl _ _ g4 93 _ (0, 0) _ rfl B4.out Tryz.underlying93 rfl (by kernel_rfl)) rfl ?_
 exact ⟨rfl, HM.out⟩
set_option maxHeartbeats 2000000 in
theorem rvalue_other (nn : Int) (nm : ByteArray) (xs : List ByteArray) (op : Int) (kids : List S38) (h1 : op ≠ 1) (h4 : op ≠ 4) (h16 : op ≠ 16) (h5 : op ≠ 5) (h6 : op ≠ 6) (h7 : op ≠ 7)  : RValSays w0 g ma A c l N m tr cn gf base bv q f ⟨op, nm, nn, xs, kids⟩ := by
 intro w cs bad hF hK
 obtain ⟨A3, c3, A4, c4, rfl, g4⟩ := kE_open' hK
 clear hK
 have hE : valE m base f ⟨op, nm, nn, xs, kids⟩ = some nilC := mis_E _ _ _ _ _ (fun e => h1 e.1) (fun e => h4 e.1) (fun e => h16 e.1) (fun e => h5 e.1) (fun e => h6 e.1) (fun e => h7 e.1)
 rw [show valN m base f ⟨op, nm, nn, xs, kids⟩ = nilC by unfold valN; rw [hE]; rfl, show valT m base f ⟨op, nm, nn, xs, kids⟩ = false by unfold valT; rw [hE]; rfl, Bool.or_false]
 have t1 : (op == 1) = false := ne_bool h1
 have t4 : (op == 4) = false := ne_bool h4
 have t16 : (op == 16) = false := ne_bool h16
 have t5 : (op == 5) = false := ne_bool h5
 have t6 : (op == 6) = false := ne_bool h6
 have t7 : (op == 7) = false := ne_bool h7
 clear hE
 have HF := Aside0.mk hF; have G4 := Aside0.mk g4
 have NG := Aside0.mk (show gf < w.heap.size from hF.lts.1)
 clear hF g4
 go_enter Tryz.func113, Tryz.ntmps113
 go_upto_region 1 with fail
 have hs := start2 w (.cells #[.int .i64 op, .string nm, .int .i64 nn, .slice A3 xs.length c3, .slice A4 kids.length c4] 38) (.cells #[.bool false, .int .i64 0] 93)
 have HL := Aside0.mk (show w.heap.size ≤ w.heap.size + 1 ∧ gf ≠ w.heap.size + 1 from by have := NG.out; omega)
 have N3 := Aside0.mk (show w.heap.size ≠ gf from by have := NG.out; omega)
 generalize (w.alloc (.cells #[.int .i64 op, .string nm, .int .i64 nn, .slice A3 xs.length c3, .slice A4 kids.length c4] 38)).alloc (.cells #[.bool false, .int .i64 0] 93) = w5 at hs ⊢
 obtain ⟨b3, b4, hb⟩ := hs
 have HM := Aside0.mk (MarkT.below (g := g) (gf := gf) (base := base) (b0 := bad) hb)
 replace HF := Aside0.mk (HF.out.marked HM.out)
 clear hb
 generalize w.heap.size + 1 = g4 at b4 HL ⊢
 obtain ⟨g3, hq⟩ : ∃ g3, w.heap.size = g3 := ⟨_, rfl⟩
 rw [hq] at b3 N3 ⊢
 clear hq
 have B3 := Aside0.mk b3; have B4 := Aside0.mk b4; clear b3 b4
 have c3_0 := (blk_cell B3.out 0).trans rfl
 have c3_1 := (blk_cell B3.out 1).trans rfl
 have c3_2 := (blk_cell B3.out 2).trans rfl
 have c3_3 := (blk_cell B3.out 3).trans rfl
 have c3_4 := (blk_cell B3.out 4).trans rfl
 go_wp2_with ((with_reducible refine gate_store (t := 93) (p := 4) rfl ?_); refine store_whole rfl rfl 93 _ _ rfl g4 _ 93 rfl B4.out _ rfl rfl rfl (by simp [Value.oneCell']) ?_; intro wz hb6 hg6; replace HM := Aside0.mk (HM.out.fresh hg6 HL.out.1 HL.out.2); replace B4 := Aside0.mk hb6; clear hb6 hg6)
 (try simp only [Exit.inBlock, Exit.then])
 refine bodyPost_ret (results_cell_row rfl _ _ g4 93 _ (0, 0) _ rfl B4.out Tryz.underlying93 rfl (by kernel_rfl)) rfl ?_
 exact ⟨rfl, HM.out⟩
theorem rvalue_calls : ∀ {x : S38}, ExIn x → RValSays w0 g ma A c l N m tr cn gf base bv q f x := by
 intro x hx
 induction hx with
 | mk x h hr ih =>
  obtain ⟨op, nm, nn, xs, kids⟩ := x
  simp only at hr ih
  by_cases h1 : op = 1
  ·subst h1
   match kids with
   | [] => exact rvalue_int nn nm xs
   | a :: r => exact rvalue_mis1 nn nm xs (a :: r) (by simp)
  by_cases h4 : op = 4
  ·subst h4
   match kids with
   | [] => exact rvalue_var nn nm xs
   | a :: r => exact rvalue_mis4 nn nm xs (a :: r) (by simp)
  by_cases h16 : op = 16
  ·subst h16
   match kids with
   | [] => exact rvalue_mem nn nm xs
   | a :: r => exact rvalue_mis16 nn nm xs (a :: r) (by simp)
  by_cases h5 : op = 5
  ·subst h5
   by_cases hl : kids.length = 1
   ·match kids, hl, ih with
    | [a], _, ih => exact rvalue_un nn nm xs a (ih a (by simp))
   ·exact rvalue_mis5 nn nm xs kids hl
  by_cases h6 : op = 6
  ·subst h6
   by_cases hl : kids.length = 2
   ·match kids, hl, hr, ih with
    | [a, b], _, hr, ih => exact rvalue_bin nn nm xs a b (hr a (by simp)) (hr b (by simp)) (ih a (by simp)) (ih b (by simp))
   ·exact rvalue_mis6 nn nm xs kids hl
  by_cases h7 : op = 7
  ·subst h7
   by_cases hl : kids.length = 3
   ·match kids, hl, ih with
    | [k, a, b], _, ih => exact rvalue_if nn nm xs k a b (ih k (by simp)) (ih a (by simp)) (ih b (by simp))
   ·exact rvalue_mis7 nn nm xs kids hl
  exact rvalue_other nn nm xs op kids h1 h4 h16 h5 h6 h7
end
end Go.Proofs.YticndoihkfbpoaaGreatDoor
