/- Package runner: an expression's value. -/
import Derived.Test.YticndoihkfbpoaaGreatDoorXc
namespace Go.Proofs.YticndoihkfbpoaaGreatDoor
open Go Go.RowKit Go.Lib Go.Proofs.YticndoihkfbpoaaGreatDoorW.PrintWords Go.Proofs.YticndoihkfbpoaaGreatDoor.PScope
set_option maxRecDepth 100000
set_option linter.unusedSimpArgs false
set_option linter.unusedVariables false
attribute [local irreducible] wpStill
def ValPost (v : Option Cl) (w : World) (e : Ending) (w' : World) : Prop := (match v with | some c => e = .returned (encC c) | none => e = trapE) ∧ Below w.heap.size w w'
theorem getD_encC (f : Vars) (s : ByteArray) : (menc encC f s).getD (.agg #[.int .i64 0, .bool false]) = .agg #[.int .i64 (vget f s).1, .bool (vget f s).2] := by
 unfold menc vget encC nilC
 cases f s with
 | none => rfl
 | some c => rfl
theorem kE_open' {w : World} {op nn : Int} {nm : ByteArray} {xs : List ByteArray} {kids : List S38} {cs : List Value} (h : kE.K w ⟨op, nm, nn, xs, kids⟩ cs) :
  ∃ A3 c3 A4 c4, cs = [.int .i64 op, .string nm, .int .i64 nn, .slice A3 xs.length c3, .slice A4 kids.length c4] ∧ kE.C w A4 kids.length kids := by
 obtain ⟨A3, c3, A4, c4, rfl, l3, g3, l4, g4⟩ := k38_open h
 exact ⟨A3, c3, A4, c4, rfl, g4⟩
theorem below_res {w w5 w6 : World} {g4 : Nat} (h : Below w.heap.size w w5) (hg : w5.grownBy w6 (some g4)) (hlt : w.heap.size ≤ g4) : Below w.heap.size w w6 :=
 pw_below_grown h _ h.size hg (by rintro k ⟨⟩; exact hlt)
theorem blk_n2 (w : World) (o1 o2 : Obj) : ((w.alloc o1).alloc o2).heap[w.heap.size + 1]? = some o2 := by
 have h := blk_new (w.alloc o1) o2
 rw [show (w.alloc o1).heap.size = w.heap.size + 1 from Array.size_push _] at h
 exact h
theorem blk_n3 (w : World) (o1 o2 o3 : Obj) : (((w.alloc o1).alloc o2).alloc o3).heap[w.heap.size + 1 + 1]? = some o3 := by
 have h := blk_n2 (w.alloc o1) o2 o3
 rw [show (w.alloc o1).heap.size = w.heap.size + 1 from Array.size_push _] at h
 exact h
theorem start3 (w : World) (o1 o2 o3 : Obj) : (((w.alloc o1).alloc o2).alloc o3).heap[w.heap.size]? = some o1 ∧ (((w.alloc o1).alloc o2).alloc o3).heap[w.heap.size + 1]? = some o2 ∧ (((w.alloc o1).alloc o2).alloc o3).heap[w.heap.size + 1 + 1]? = some o3 ∧ Below w.heap.size w (((w.alloc o1).alloc o2).alloc o3) :=
 ⟨blk_alloc (blk_alloc (blk_new w o1) o2) o3, blk_alloc (blk_n2 w o1 o2) o3, blk_n3 w o1 o2 o3, below_alloc (below_alloc (below_alloc (Below.refl _ w) _) _) _⟩
theorem kid_cells {w0 W : World} (hb : Below w0.heap.size w0 W) {A : Option Addr} {kids : List S38} (h : kE.C w0 A kids.length kids) (i : Nat) (hi : i < kids.length) (y : S38) (hy : kids.getD i z38 = y) :
  ∃ ad A3 c3 A4 c4, A = some ad ∧ kE.K w0 y [.int .i64 y.f0, .string y.f1, .int .i64 y.f2, .slice A3 y.f3.length c3, .slice A4 y.f4.length c4] ∧
   W.cell? (ad.add (i * 5)) = some (.int .i64 y.f0) ∧ W.cell? ⟨(ad.add (i * 5)).block, (ad.add (i * 5)).off + 1, none⟩ = some (.string y.f1) ∧ W.cell? ⟨(ad.add (i * 5)).block, (ad.add (i * 5)).off + 2, none⟩ = some (.int .i64 y.f2) ∧
   W.cell? ⟨(ad.add (i * 5)).block, (ad.add (i * 5)).off + 3, none⟩ = some (.slice A3 y.f3.length c3) ∧ W.cell? ⟨(ad.add (i * 5)).block, (ad.add (i * 5)).off + 4, none⟩ = some (.slice A4 y.f4.length c4) := by
 obtain ⟨ad, cs, rfl, _, K, cc⟩ := Kd.C_get h z38 (i : Int) (by omega) (by omega)
 rw [Int.toNat_natCast, hy] at K
 have K' := K
 obtain ⟨A3, c3, A4, c4, rfl, _⟩ := k38_open K'
 have x0 := (hb.cell (World.block_lt_of_cell? w0 _ (cc 0 _ rfl))).trans (cc 0 _ rfl)
 have x1 := (hb.cell (World.block_lt_of_cell? w0 _ (cc 1 _ rfl))).trans (cc 1 _ rfl)
 have x2 := (hb.cell (World.block_lt_of_cell? w0 _ (cc 2 _ rfl))).trans (cc 2 _ rfl)
 have x3 := (hb.cell (World.block_lt_of_cell? w0 _ (cc 3 _ rfl))).trans (cc 3 _ rfl)
 have x4 := (hb.cell (World.block_lt_of_cell? w0 _ (cc 4 _ rfl))).trans (cc 4 _ rfl)
 rw [show kE.sz = 5 from rfl, Nat.add_zero, Int.toNat_natCast] at x0
 rw [show kE.sz = 5 from rfl, Int.toNat_natCast, add_field _ _ 1 (by omega)] at x1
 rw [show kE.sz = 5 from rfl, Int.toNat_natCast, add_field _ _ 2 (by omega)] at x2
 rw [show kE.sz = 5 from rfl, Int.toNat_natCast, add_field _ _ 3 (by omega)] at x3
 rw [show kE.sz = 5 from rfl, Int.toNat_natCast, add_field _ _ 4 (by omega)] at x4
 exact ⟨ad, A3, c3, A4, c4, rfl, K, x0, x1, x2, x3, x4⟩
theorem add_pos (a : Addr) (n : Nat) (h : n ≠ 0) : a.add n = ⟨a.block, a.off + n, none⟩ := if_neg h
theorem add_zero' (a : Addr) : a.add 0 = a := by unfold Addr.add; simp
theorem ne_bool {a b : Int} (h : a ≠ b) : (a == b) = false := beq_eq_false_iff_ne.2 h
section
variable {w0 w w' : World} {g : Nat} {ma : Addr} {A : Option Addr} {c : Nat} {l : List FF} {N : Nat} {m : List Cl} {tr : Bool} {cn : Int} {gf : Nat} {base : Int} {mp : Nat} {f : Vars}
def ValSays (w0 : World) (g : Nat) (ma : Addr) (A : Option Addr) (c : Nat) (l : List FF) (N : Nat) (m : List Cl) (tr : Bool) (cn : Int) (gf : Nat) (base : Int) (mp : Nat) (f : Vars) (x : S38) : Prop :=
 ∀ (w : World) (cs : List Value), FAt w0 w g ma A c l N m tr cn gf base mp f → kE.K w0 x cs → Calls Tryz.prog 107 #[.pointer (some ⟨gf, 0, none⟩), .agg cs.toArray] w (ValPost (valE m base f x) w)
theorem vs_some {x : S38} (h : ValSays w0 g ma A c l N m tr cn gf base mp f x) {v : Cl} (hv : valE m base f x = some v) (cs : List Value) (hK : kE.K w0 x cs) (W : World) (hF : FAt w0 W g ma A c l N m tr cn gf base mp f) :
  Calls Tryz.prog 107 #[.pointer (some ⟨gf, 0, none⟩), .agg cs.toArray] W fun e w' => e = .returned (.agg #[.int .i64 v.1, .bool v.2]) ∧ Below W.heap.size W w' := by
 have := h W cs hF hK
 rw [hv] at this
 exact this
theorem vs_none {x : S38} (h : ValSays w0 g ma A c l N m tr cn gf base mp f x) (hv : valE m base f x = none) (cs : List Value) (hK : kE.K w0 x cs) (W : World) (hF : FAt w0 W g ma A c l N m tr cn gf base mp f) :
  Calls Tryz.prog 107 #[.pointer (some ⟨gf, 0, none⟩), .agg cs.toArray] W fun e w' => e = trapE ∧ Below W.heap.size W w' := by
 have := h W cs hF hK
 rw [hv] at this
 exact this
theorem valE_int (m : List Cl) (base : Int) (f : Vars) (nm : ByteArray) (nn : Int) (xs : List ByteArray)  : valE m base f ⟨1, nm, nn, xs, []⟩ = some (nn, true) := by rw [valE_eq]; rfl
theorem valE_var (m : List Cl) (base : Int) (f : Vars) (nm : ByteArray) (nn : Int) (xs : List ByteArray)  : valE m base f ⟨4, nm, nn, xs, []⟩ = some (vget f nm) := by rw [valE_eq]; rfl
theorem valE_mem (m : List Cl) (base : Int) (f : Vars) (nm : ByteArray) (nn : Int) (xs : List ByteArray)  : valE m base f ⟨16, nm, nn, xs, []⟩ = atV m base nn := by rw [valE_eq]; rfl
theorem valE_un (m : List Cl) (base : Int) (f : Vars) (nm : ByteArray) (nn : Int) (xs : List ByteArray) (a : S38) : valE m base f ⟨5, nm, nn, xs, [a]⟩ = (valE m base f a).map (fun c => if c.2 then ((unV nm c.1).1, (unV nm c.1).2 == 0) else nilC) := by rw [valE_eq]; rfl
theorem valE_bin (m : List Cl) (base : Int) (f : Vars) (nm : ByteArray) (nn : Int) (xs : List ByteArray) (a b : S38) : valE m base f ⟨6, nm, nn, xs, [a, b]⟩ = (valE m base f a).bind (fun x => (valE m base f b).map (fun y => if x.2 && y.2 then ((binV nm x.1 y.1).1, (binV nm x.1 y.1).2 == 0) else nilC)) := by rw [valE_eq]; rfl
theorem valE_if (m : List Cl) (base : Int) (f : Vars) (nm : ByteArray) (nn : Int) (xs : List ByteArray) (k a b : S38) : valE m base f ⟨7, nm, nn, xs, [k, a, b]⟩ = (valE m base f k).bind (fun x => if x.2 then (if x.1 = 0 then valE m base f b else valE m base f a) else some nilC) := by rw [valE_eq]; rfl
theorem valE_other0 (m : List Cl) (base : Int) (f : Vars) (nm : ByteArray) (nn : Int) (xs : List ByteArray) (op : Int) (h1 : op ≠ 1) (h4 : op ≠ 4) (h16 : op ≠ 16) : valE m base f ⟨op, nm, nn, xs, []⟩ = some nilC := by rw [valE_eq]; exact (if_neg h1).trans ((if_neg h4).trans (if_neg h16))
theorem valE_other1 (m : List Cl) (base : Int) (f : Vars) (nm : ByteArray) (nn : Int) (xs : List ByteArray) (op : Int) (a : S38) (h : op ≠ 5) : valE m base f ⟨op, nm, nn, xs, [a]⟩ = some nilC := by rw [valE_eq]; exact if_neg h
theorem valE_other2 (m : List Cl) (base : Int) (f : Vars) (nm : ByteArray) (nn : Int) (xs : List ByteArray) (op : Int) (a b : S38) (h : op ≠ 6) : valE m base f ⟨op, nm, nn, xs, [a, b]⟩ = some nilC := by rw [valE_eq]; exact if_neg h
theorem valE_other3 (m : List Cl) (base : Int) (f : Vars) (nm : ByteArray) (nn : Int) (xs : List ByteArray) (op : Int) (k a b : S38) (h : op ≠ 7) : valE m base f ⟨op, nm, nn, xs, [k, a, b]⟩ = some nilC := by rw [valE_eq]; exact if_neg h
theorem valE_many (m : List Cl) (base : Int) (f : Vars) (nm : ByteArray) (nn : Int) (xs : List ByteArray) (op : Int) (kids : List S38) (h : 4 ≤ kids.length) : valE m base f ⟨op, nm, nn, xs, kids⟩ = some nilC := by rw [valE_eq]; show worth m base f op nm nn (kids.map (valE m base f)) = _; match kids, h with | a :: b :: k :: d :: r, _ => rfl
set_option maxHeartbeats 2000000 in
theorem value_int (nn : Int) (nm : ByteArray) (xs : List ByteArray)  : ValSays w0 g ma A c l N m tr cn gf base mp f ⟨1, nm, nn, xs, []⟩ := by
 intro w cs hF hK
 obtain ⟨A3, c3, A4, c4, rfl, g4⟩ := kE_open' hK
 clear hK
 rw [valE_int]
 have HF := Aside0.mk hF; have G4 := Aside0.mk g4
 clear hF g4
 go_enter Tryz.func107, Tryz.ntmps107
 go_upto_region 3 with fail
 have hs := start3 w (.cells #[.int .i64 1, .string nm, .int .i64 nn, .slice A3 xs.length c3, .slice A4 0 c4] 38) (.cells #[.int .i64 0, .bool false] 91) (.cells #[.int .i64 0, .bool false] 91)
 have HL := Aside0.mk (show w.heap.size ≤ w.heap.size + 1 by omega)
 generalize ((w.alloc (.cells #[.int .i64 1, .string nm, .int .i64 nn, .slice A3 xs.length c3, .slice A4 0 c4] 38)).alloc (.cells #[.int .i64 0, .bool false] 91)).alloc (.cells #[.int .i64 0, .bool false] 91) = w5 at hs ⊢
 obtain ⟨b3, b4, b5, hb⟩ := hs
 replace HF := Aside0.mk (HF.out.below' hb)
 have HB := Aside0.mk hb
 clear hb
 generalize w.heap.size + 1 + 1 = g5 at b5 ⊢
 generalize w.heap.size + 1 = g4 at b4 HL ⊢
 have hq : ∃ g3, w.heap.size = g3 := ⟨_, rfl⟩
 obtain ⟨g3, hq⟩ := hq
 rw [hq] at b3 ⊢
 clear hq
 have B3 := Aside0.mk b3; have B4 := Aside0.mk b4; have B5 := Aside0.mk b5; clear b3 b4 b5
 have c3_0 := (blk_cell B3.out 0).trans rfl
 have c3_1 := (blk_cell B3.out 1).trans rfl
 have c3_2 := (blk_cell B3.out 2).trans rfl
 have c3_3 := (blk_cell B3.out 3).trans rfl
 have c3_4 := (blk_cell B3.out 4).trans rfl
 go_wp2_with ((with_reducible refine gate_store (t := 91) (p := 4) rfl ?_); refine store_whole rfl rfl 91 _ _ rfl g4 _ 91 rfl B4.out _ rfl rfl rfl (by simp [Value.oneCell']) ?_; intro w6 hb6 hg6; replace HB := Aside0.mk (below_res HB.out hg6 HL.out); replace B4 := Aside0.mk hb6; clear hb6 hg6)
 (try simp only [Exit.inBlock, Exit.then])
 refine bodyPost_ret (results_cell_row rfl _ _ g4 91 _ (0, 0) _ rfl B4.out Tryz.underlying91 rfl (by kernel_rfl)) rfl ?_
 exact ⟨rfl, HB.out⟩
set_option maxHeartbeats 2000000 in
theorem value_var (nn : Int) (nm : ByteArray) (xs : List ByteArray)  : ValSays w0 g ma A c l N m tr cn gf base mp f ⟨4, nm, nn, xs, []⟩ := by
 intro w cs hF hK
 obtain ⟨A3, c3, A4, c4, rfl, g4⟩ := kE_open' hK
 clear hK
 rw [valE_var]
 obtain ⟨v, hv⟩ : ∃ v, vget f nm = v := ⟨_, rfl⟩
 rw [hv]
 obtain ⟨v, o⟩ := v
 have HF := Aside0.mk hF; have G4 := Aside0.mk g4
 clear hF g4
 go_enter Tryz.func107, Tryz.ntmps107
 go_upto_region 3 with fail
 have hs := start3 w (.cells #[.int .i64 4, .string nm, .int .i64 nn, .slice A3 xs.length c3, .slice A4 0 c4] 38) (.cells #[.int .i64 0, .bool false] 91) (.cells #[.int .i64 0, .bool false] 91)
 have HL := Aside0.mk (show w.heap.size ≤ w.heap.size + 1 by omega)
 generalize ((w.alloc (.cells #[.int .i64 4, .string nm, .int .i64 nn, .slice A3 xs.length c3, .slice A4 0 c4] 38)).alloc (.cells #[.int .i64 0, .bool false] 91)).alloc (.cells #[.int .i64 0, .bool false] 91) = w5 at hs ⊢
 obtain ⟨b3, b4, b5, hb⟩ := hs
 replace HF := Aside0.mk (HF.out.below' hb)
 have HB := Aside0.mk hb
 clear hb
 generalize w.heap.size + 1 + 1 = g5 at b5 ⊢
 generalize w.heap.size + 1 = g4 at b4 HL ⊢
 have hq : ∃ g3, w.heap.size = g3 := ⟨_, rfl⟩
 obtain ⟨g3, hq⟩ := hq
 rw [hq] at b3 ⊢
 clear hq
 have B3 := Aside0.mk b3; have B4 := Aside0.mk b4; have B5 := Aside0.mk b5; clear b3 b4 b5
 have c3_0 := (blk_cell B3.out 0).trans rfl
 have c3_1 := (blk_cell B3.out 1).trans rfl
 have c3_2 := (blk_cell B3.out 2).trans rfl
 have c3_3 := (blk_cell B3.out 3).trans rfl
 have c3_4 := (blk_cell B3.out 4).trans rfl
 have x0 := (blk_cell HF.out.frm 0).trans rfl
 have x1 := (blk_cell HF.out.frm 1).trans rfl
 have x2 := (blk_cell HF.out.frm 2).trans rfl
 have hlk : (Instr.lookup 124 (.map (some mp)) (.string nm) false).run Tryz.prog (World.drew w5) = _ := (show StrMap (World.drew w5) mp (menc encC f) from HF.out.vars).look Tryz.underlying124 Tryz.underlying9 (zero_cell _) nm false
 simp only [Bool.false_eq_true, if_false, getD_encC] at hlk
 rw [hv] at hlk
 clear hv
 simp only [] at hlk
 go_wp2_with fail
 go_still_tail 7, (by kernel_rfl)
 change wpList _ _ _ _ _ (World.drew w5)
 clear hlk x0 x1 x2 c3_0 c3_1 c3_2 c3_3 c3_4
 replace HB := Aside0.mk (below_drew1 HB.out)
 replace B4 := Aside0.mk (blk_drew B4.out)
 generalize World.drew w5 = w5 at HB B4 ⊢
 go_wp2_with ((with_reducible refine gate_store (t := 91) (p := 4) rfl ?_); refine store_whole rfl rfl 91 _ _ rfl g4 _ 91 rfl B4.out _ rfl rfl rfl (by simp [Value.oneCell']) ?_; intro w6 hb6 hg6; replace HB := Aside0.mk (below_res HB.out hg6 HL.out); replace B4 := Aside0.mk hb6; clear hb6 hg6)
 (try simp only [Exit.inBlock, Exit.then])
 refine bodyPost_ret (results_cell_row rfl _ _ g4 91 _ (0, 0) _ rfl B4.out Tryz.underlying91 rfl (by kernel_rfl)) rfl ?_
 exact ⟨rfl, HB.out⟩
set_option maxHeartbeats 2000000 in
theorem value_mem (nn : Int) (nm : ByteArray) (xs : List ByteArray)  : ValSays w0 g ma A c l N m tr cn gf base mp f ⟨16, nm, nn, xs, []⟩ := by
 intro w cs hF hK
 obtain ⟨A3, c3, A4, c4, rfl, g4⟩ := kE_open' hK
 clear hK
 by_cases hc : 0 ≤ nn ∧ nn < (m.length : Int) - base
 ·obtain ⟨v, hv⟩ : ∃ v, m.getD (base + nn).toNat nilC = v := ⟨_, rfl⟩
  rw [valE_mem, show atV m base nn = some v by rw [← hv]; exact if_pos hc]
  obtain ⟨v, o⟩ := v
  have HF := Aside0.mk hF; have G4 := Aside0.mk g4
  clear hF g4
  go_enter Tryz.func107, Tryz.ntmps107
  go_upto_region 3 with fail
  have hs := start3 w (.cells #[.int .i64 16, .string nm, .int .i64 nn, .slice A3 xs.length c3, .slice A4 0 c4] 38) (.cells #[.int .i64 0, .bool false] 91) (.cells #[.int .i64 0, .bool false] 91)
  have HL := Aside0.mk (show w.heap.size ≤ w.heap.size + 1 by omega)
  generalize ((w.alloc (.cells #[.int .i64 16, .string nm, .int .i64 nn, .slice A3 xs.length c3, .slice A4 0 c4] 38)).alloc (.cells #[.int .i64 0, .bool false] 91)).alloc (.cells #[.int .i64 0, .bool false] 91) = w5 at hs ⊢
  obtain ⟨b3, b4, b5, hb⟩ := hs
  replace HF := Aside0.mk (HF.out.below' hb)
  have HB := Aside0.mk hb
  clear hb
  generalize w.heap.size + 1 + 1 = g5 at b5 ⊢
  generalize w.heap.size + 1 = g4 at b4 HL ⊢
  have hq : ∃ g3, w.heap.size = g3 := ⟨_, rfl⟩
  obtain ⟨g3, hq⟩ := hq
  rw [hq] at b3 ⊢
  clear hq
  have B3 := Aside0.mk b3; have B4 := Aside0.mk b4; have B5 := Aside0.mk b5; clear b3 b4 b5
  have c3_0 := (blk_cell B3.out 0).trans rfl
  have c3_1 := (blk_cell B3.out 1).trans rfl
  have c3_2 := (blk_cell B3.out 2).trans rfl
  have c3_3 := (blk_cell B3.out 3).trans rfl
  have c3_4 := (blk_cell B3.out 4).trans rfl
  have hat := at_calls HF.out nn
  unfold AtPost at hat
  simp only [if_pos hc] at hat
  go_wp2_with fail
  refine hat.mono ?_
  clear hat
  rintro e w6 ⟨rfl, hb⟩
  have hb0 := HF.out.b0
  have MR := HF.out.run.mem.below hb
  have k0 := MR.cell0 (base + nn).toNat (by omega)
  have k1 := MR.cell1 (base + nn).toNat (by omega)
  unfold nilC at hv
  rw [hv] at k0 k1
  replace HB := Aside0.mk (below_step HB.out hb)
  replace B4 := Aside0.mk (below_blk B4.out hb)
  clear hb hc hb0 MR hv c3_0 c3_1 c3_2 c3_3 c3_4
  generalize ma.add ((base + nn).toNat * 2) = a at k0 k1 ⊢
  go_wp2_with ((with_reducible refine gate_store (t := 91) (p := 4) rfl ?_); refine store_whole rfl rfl 91 _ _ rfl g4 _ 91 rfl B4.out _ rfl rfl rfl (by simp [Value.oneCell']) ?_; intro w6 hb6 hg6; replace HB := Aside0.mk (below_res HB.out hg6 HL.out); replace B4 := Aside0.mk hb6; clear hb6 hg6)
  (try simp only [Exit.inBlock, Exit.then])
  refine bodyPost_ret (results_cell_row rfl _ _ g4 91 _ (0, 0) _ rfl B4.out Tryz.underlying91 rfl (by kernel_rfl)) rfl ?_
  exact ⟨rfl, HB.out⟩
 ·rw [valE_mem, show atV m base nn = none from if_neg hc]
  have HF := Aside0.mk hF; have G4 := Aside0.mk g4
  clear hF g4
  go_enter Tryz.func107, Tryz.ntmps107
  go_upto_region 3 with fail
  have hs := start3 w (.cells #[.int .i64 16, .string nm, .int .i64 nn, .slice A3 xs.length c3, .slice A4 0 c4] 38) (.cells #[.int .i64 0, .bool false] 91) (.cells #[.int .i64 0, .bool false] 91)
  have HL := Aside0.mk (show w.heap.size ≤ w.heap.size + 1 by omega)
  generalize ((w.alloc (.cells #[.int .i64 16, .string nm, .int .i64 nn, .slice A3 xs.length c3, .slice A4 0 c4] 38)).alloc (.cells #[.int .i64 0, .bool false] 91)).alloc (.cells #[.int .i64 0, .bool false] 91) = w5 at hs ⊢
  obtain ⟨b3, b4, b5, hb⟩ := hs
  replace HF := Aside0.mk (HF.out.below' hb)
  have HB := Aside0.mk hb
  clear hb
  generalize w.heap.size + 1 + 1 = g5 at b5 ⊢
  generalize w.heap.size + 1 = g4 at b4 HL ⊢
  have hq : ∃ g3, w.heap.size = g3 := ⟨_, rfl⟩
  obtain ⟨g3, hq⟩ := hq
  rw [hq] at b3 ⊢
  clear hq
  have B3 := Aside0.mk b3; have B4 := Aside0.mk b4; have B5 := Aside0.mk b5; clear b3 b4 b5
  have c3_0 := (blk_cell B3.out 0).trans rfl
  have c3_1 := (blk_cell B3.out 1).trans rfl
  have c3_2 := (blk_cell B3.out 2).trans rfl
  have c3_3 := (blk_cell B3.out 3).trans rfl
  have c3_4 := (blk_cell B3.out 4).trans rfl
  have hat := at_calls HF.out nn
  unfold AtPost at hat
  simp only [if_neg hc] at hat
  go_wp2_with fail
  refine hat.mono ?_
  clear hat
  rintro e w6 ⟨rfl, hb⟩
  replace HB := Aside0.mk (below_step HB.out hb)
  clear hb hc
  go_wp2_with fail
  exact ⟨rfl, rfl, HB.out⟩
set_option maxHeartbeats 2000000 in
theorem value_un (nn : Int) (nm : ByteArray) (xs : List ByteArray) (a : S38) (iha : ValSays w0 g ma A c l N m tr cn gf base mp f a)  : ValSays w0 g ma A c l N m tr cn gf base mp f ⟨5, nm, nn, xs, [a]⟩ := by
 intro w cs hF hK
 obtain ⟨A3, c3, A4, c4, rfl, g4⟩ := kE_open' hK
 clear hK
 cases hva : valE m base f a with
 | none =>
  rw [valE_un, hva, Option.map_none]
  have HF := Aside0.mk hF; have G4 := Aside0.mk g4
  clear hF g4
  go_enter Tryz.func107, Tryz.ntmps107
  go_upto_region 3 with fail
  have hs := start3 w (.cells #[.int .i64 5, .string nm, .int .i64 nn, .slice A3 xs.length c3, .slice A4 1 c4] 38) (.cells #[.int .i64 0, .bool false] 91) (.cells #[.int .i64 0, .bool false] 91)
  have HL := Aside0.mk (show w.heap.size ≤ w.heap.size + 1 by omega)
  generalize ((w.alloc (.cells #[.int .i64 5, .string nm, .int .i64 nn, .slice A3 xs.length c3, .slice A4 1 c4] 38)).alloc (.cells #[.int .i64 0, .bool false] 91)).alloc (.cells #[.int .i64 0, .bool false] 91) = w5 at hs ⊢
  obtain ⟨b3, b4, b5, hb⟩ := hs
  replace HF := Aside0.mk (HF.out.below' hb)
  have HB := Aside0.mk hb
  clear hb
  generalize w.heap.size + 1 + 1 = g5 at b5 ⊢
  generalize w.heap.size + 1 = g4 at b4 HL ⊢
  have hq : ∃ g3, w.heap.size = g3 := ⟨_, rfl⟩
  obtain ⟨g3, hq⟩ := hq
  rw [hq] at b3 ⊢
  clear hq
  have B3 := Aside0.mk b3; have B4 := Aside0.mk b4; have B5 := Aside0.mk b5; clear b3 b4 b5
  have c3_0 := (blk_cell B3.out 0).trans rfl
  have c3_1 := (blk_cell B3.out 1).trans rfl
  have c3_2 := (blk_cell B3.out 2).trans rfl
  have c3_3 := (blk_cell B3.out 3).trans rfl
  have c3_4 := (blk_cell B3.out 4).trans rfl
  obtain ⟨aad, aA3, ac3, aA4, ac4, ea, aK, ax0, ax1, ax2, ax3, ax4⟩ := kid_cells HF.out.run.below G4.out 0 (by simp) a rfl
  obtain rfl := ea
  simp only [Nat.zero_mul, Nat.one_mul, Nat.reduceMul, Nat.add_zero, add_zero'] at ax0 ax1 ax2 ax3 ax4
  have HaK := Aside0.mk aK; clear aK
  have hca := vs_none iha hva _ HaK.out
  go_wp2_with fail
  refine (hca _ HF.out).mono ?_
  rintro e w6 ⟨rfl, hb⟩
  replace HB := Aside0.mk (below_step HB.out hb)
  replace B3 := Aside0.mk (below_blk B3.out hb)
  replace B4 := Aside0.mk (below_blk B4.out hb)
  replace B5 := Aside0.mk (below_blk B5.out hb)
  replace HF := Aside0.mk (HF.out.below' hb)
  clear hb
  clear hca
  go_wp2_with fail
  exact ⟨rfl, rfl, HB.out⟩
 | some cv =>
  obtain ⟨v, o⟩ := cv
  rw [valE_un, hva, Option.map_some]
  cases o with
  | false =>
   rw [if_neg Bool.false_ne_true]
   have HF := Aside0.mk hF; have G4 := Aside0.mk g4
   clear hF g4
   go_enter Tryz.func107, Tryz.ntmps107
   go_upto_region 3 with fail
   have hs := start3 w (.cells #[.int .i64 5, .string nm, .int .i64 nn, .slice A3 xs.length c3, .slice A4 1 c4] 38) (.cells #[.int .i64 0, .bool false] 91) (.cells #[.int .i64 0, .bool false] 91)
   have HL := Aside0.mk (show w.heap.size ≤ w.heap.size + 1 by omega)
   generalize ((w.alloc (.cells #[.int .i64 5, .string nm, .int .i64 nn, .slice A3 xs.length c3, .slice A4 1 c4] 38)).alloc (.cells #[.int .i64 0, .bool false] 91)).alloc (.cells #[.int .i64 0, .bool false] 91) = w5 at hs ⊢
   obtain ⟨b3, b4, b5, hb⟩ := hs
   replace HF := Aside0.mk (HF.out.below' hb)
   have HB := Aside0.mk hb
   clear hb
   generalize w.heap.size + 1 + 1 = g5 at b5 ⊢
   generalize w.heap.size + 1 = g4 at b4 HL ⊢
   have hq : ∃ g3, w.heap.size = g3 := ⟨_, rfl⟩
   obtain ⟨g3, hq⟩ := hq
   rw [hq] at b3 ⊢
   clear hq
   have B3 := Aside0.mk b3; have B4 := Aside0.mk b4; have B5 := Aside0.mk b5; clear b3 b4 b5
   have c3_0 := (blk_cell B3.out 0).trans rfl
   have c3_1 := (blk_cell B3.out 1).trans rfl
   have c3_2 := (blk_cell B3.out 2).trans rfl
   have c3_3 := (blk_cell B3.out 3).trans rfl
   have c3_4 := (blk_cell B3.out 4).trans rfl
   obtain ⟨aad, aA3, ac3, aA4, ac4, ea, aK, ax0, ax1, ax2, ax3, ax4⟩ := kid_cells HF.out.run.below G4.out 0 (by simp) a rfl
   obtain rfl := ea
   simp only [Nat.zero_mul, Nat.one_mul, Nat.reduceMul, Nat.add_zero, add_zero'] at ax0 ax1 ax2 ax3 ax4
   have HaK := Aside0.mk aK; clear aK
   have hca := vs_some iha hva _ HaK.out
   go_wp2_with fail
   refine (hca _ HF.out).mono ?_
   rintro e w6 ⟨rfl, hb⟩
   replace HB := Aside0.mk (below_step HB.out hb)
   replace B3 := Aside0.mk (below_blk B3.out hb)
   replace B4 := Aside0.mk (below_blk B4.out hb)
   replace B5 := Aside0.mk (below_blk B5.out hb)
   replace HF := Aside0.mk (HF.out.below' hb)
   clear hb
   clear hca
   clear c3_0 c3_1 c3_2 c3_3 c3_4
   clear ax0 ax1 ax2 ax3 ax4
   skip
   go_wp2_with (first | ((with_reducible refine gate_store (t := 91) (p := 4) rfl ?_); refine store_whole rfl rfl 91 _ _ rfl g4 _ 91 rfl B4.out _ rfl rfl rfl (by simp [Value.oneCell']) ?_; intro w6 hb6 hg6; replace HB := Aside0.mk (below_res HB.out hg6 HL.out); replace B4 := Aside0.mk hb6; clear hb6 hg6) | ((with_reducible refine gate_store (t := 91) (p := 7) rfl ?_); refine store_whole rfl rfl 91 _ _ rfl w6.heap.size _ 91 rfl (blk_new _ _) _ rfl rfl rfl (by simp [Value.oneCell']) ?_; intro w2 hb2 hg2; replace B3 := Aside0.mk (blk_as B3.out hg2); replace B4 := Aside0.mk (blk_as B4.out hg2); replace B5 := Aside0.mk (blk_as B5.out hg2); replace HB := Aside0.mk (below_as HB.out hg2); obtain ⟨g7, hq_⟩ : ∃ g_, g_ = w6.heap.size := ⟨_, rfl⟩; rw [← hq_] at hb2; rw [← hq_]; have Bg7 := Aside0.mk hb2; clear hb2 hg2 hq_; have dg7_0 := (blk_cell Bg7.out 0).trans rfl; have dg7_1 := (blk_cell Bg7.out 1).trans rfl; have c5_0 := (blk_cell B5.out 0).trans rfl; have c5_1 := (blk_cell B5.out 1).trans rfl))
   (try simp only [Exit.inBlock, Exit.then])
   refine bodyPost_ret (results_cell_row rfl _ _ g4 91 _ (0, 0) _ rfl B4.out Tryz.underlying91 rfl (by kernel_rfl)) rfl ?_
   exact ⟨rfl, HB.out⟩
  | true =>
   obtain ⟨u, hu⟩ : ∃ u, unV nm v = u := ⟨_, rfl⟩
   rw [if_pos rfl, hu]
   have hun := fun W => un_calls nm v W
   rw [hu] at hun
   clear hu
   have HF := Aside0.mk hF; have G4 := Aside0.mk g4
   clear hF g4
   go_enter Tryz.func107, Tryz.ntmps107
   go_upto_region 3 with fail
   have hs := start3 w (.cells #[.int .i64 5, .string nm, .int .i64 nn, .slice A3 xs.length c3, .slice A4 1 c4] 38) (.cells #[.int .i64 0, .bool false] 91) (.cells #[.int .i64 0, .bool false] 91)
   have HL := Aside0.mk (show w.heap.size ≤ w.heap.size + 1 by omega)
   generalize ((w.alloc (.cells #[.int .i64 5, .string nm, .int .i64 nn, .slice A3 xs.length c3, .slice A4 1 c4] 38)).alloc (.cells #[.int .i64 0, .bool false] 91)).alloc (.cells #[.int .i64 0, .bool false] 91) = w5 at hs ⊢
   obtain ⟨b3, b4, b5, hb⟩ := hs
   replace HF := Aside0.mk (HF.out.below' hb)
   have HB := Aside0.mk hb
   clear hb
   generalize w.heap.size + 1 + 1 = g5 at b5 ⊢
   generalize w.heap.size + 1 = g4 at b4 HL ⊢
   have hq : ∃ g3, w.heap.size = g3 := ⟨_, rfl⟩
   obtain ⟨g3, hq⟩ := hq
   rw [hq] at b3 ⊢
   clear hq
   have B3 := Aside0.mk b3; have B4 := Aside0.mk b4; have B5 := Aside0.mk b5; clear b3 b4 b5
   have c3_0 := (blk_cell B3.out 0).trans rfl
   have c3_1 := (blk_cell B3.out 1).trans rfl
   have c3_2 := (blk_cell B3.out 2).trans rfl
   have c3_3 := (blk_cell B3.out 3).trans rfl
   have c3_4 := (blk_cell B3.out 4).trans rfl
   obtain ⟨aad, aA3, ac3, aA4, ac4, ea, aK, ax0, ax1, ax2, ax3, ax4⟩ := kid_cells HF.out.run.below G4.out 0 (by simp) a rfl
   obtain rfl := ea
   simp only [Nat.zero_mul, Nat.one_mul, Nat.reduceMul, Nat.add_zero, add_zero'] at ax0 ax1 ax2 ax3 ax4
   have HaK := Aside0.mk aK; clear aK
   have hca := vs_some iha hva _ HaK.out
   go_wp2_with fail
   refine (hca _ HF.out).mono ?_
   rintro e w6 ⟨rfl, hb⟩
   replace HB := Aside0.mk (below_step HB.out hb)
   replace B3 := Aside0.mk (below_blk B3.out hb)
   replace B4 := Aside0.mk (below_blk B4.out hb)
   replace B5 := Aside0.mk (below_blk B5.out hb)
   replace HF := Aside0.mk (HF.out.below' hb)
   clear hb
   clear hca
   clear c3_0 c3_1 c3_2 c3_3 c3_4
   clear ax0 ax1 ax2 ax3 ax4
   go_wp2_with ((with_reducible refine gate_store (t := 91) (p := 7) rfl ?_); refine store_whole rfl rfl 91 _ _ rfl w6.heap.size _ 91 rfl (blk_new _ _) _ rfl rfl rfl (by simp [Value.oneCell']) ?_; intro w2 hb2 hg2; replace B3 := Aside0.mk (blk_as B3.out hg2); replace B4 := Aside0.mk (blk_as B4.out hg2); replace B5 := Aside0.mk (blk_as B5.out hg2); replace HB := Aside0.mk (below_as HB.out hg2); obtain ⟨g7, hq_⟩ : ∃ g_, g_ = w6.heap.size := ⟨_, rfl⟩; rw [← hq_] at hb2; rw [← hq_]; have Bg7 := Aside0.mk hb2; clear hb2 hg2 hq_; have dg7_0 := (blk_cell Bg7.out 0).trans rfl; have dg7_1 := (blk_cell Bg7.out 1).trans rfl; have c3_0 := (blk_cell B3.out 0).trans rfl; have c3_1 := (blk_cell B3.out 1).trans rfl; have c3_2 := (blk_cell B3.out 2).trans rfl; have c3_3 := (blk_cell B3.out 3).trans rfl; have c3_4 := (blk_cell B3.out 4).trans rfl)
   refine (hun _).mono ?_
   rintro e w8 ⟨rfl, rfl⟩
   clear hun
   clear c3_0 c3_1 c3_2 c3_3 c3_4
   go_wp2_with ((with_reducible refine gate_store (t := 91) (p := 4) rfl ?_); refine store_whole rfl rfl 91 _ _ rfl g4 _ 91 rfl B4.out _ rfl rfl rfl (by simp [Value.oneCell']) ?_; intro w6 hb6 hg6; replace HB := Aside0.mk (below_res HB.out hg6 HL.out); replace B4 := Aside0.mk hb6; clear hb6 hg6)
   (try simp only [Exit.inBlock, Exit.then])
   refine bodyPost_ret (results_cell_row rfl _ _ g4 91 _ (0, 0) _ rfl B4.out Tryz.underlying91 rfl (by kernel_rfl)) rfl ?_
   exact ⟨rfl, HB.out⟩
set_option maxHeartbeats 2000000 in
theorem value_other0 (nn : Int) (nm : ByteArray) (xs : List ByteArray) (op : Int) (h1 : op ≠ 1) (h4 : op ≠ 4) (h16 : op ≠ 16)  : ValSays w0 g ma A c l N m tr cn gf base mp f ⟨op, nm, nn, xs, []⟩ := by
 intro w cs hF hK
 obtain ⟨A3, c3, A4, c4, rfl, g4⟩ := kE_open' hK
 clear hK
 have t1 : (op == 1) = false := ne_bool h1
 have t4 : (op == 4) = false := ne_bool h4
 have t16 : (op == 16) = false := ne_bool h16
 rw [valE_other0 _ _ _ _ _ _ _ h1 h4 h16]
 have HF := Aside0.mk hF; have G4 := Aside0.mk g4
 clear hF g4
 go_enter Tryz.func107, Tryz.ntmps107
 go_upto_region 3 with fail
 have hs := start3 w (.cells #[.int .i64 op, .string nm, .int .i64 nn, .slice A3 xs.length c3, .slice A4 0 c4] 38) (.cells #[.int .i64 0, .bool false] 91) (.cells #[.int .i64 0, .bool false] 91)
 have HL := Aside0.mk (show w.heap.size ≤ w.heap.size + 1 by omega)
 generalize ((w.alloc (.cells #[.int .i64 op, .string nm, .int .i64 nn, .slice A3 xs.length c3, .slice A4 0 c4] 38)).alloc (.cells #[.int .i64 0, .bool false] 91)).alloc (.cells #[.int .i64 0, .bool false] 91) = w5 at hs ⊢
 obtain ⟨b3, b4, b5, hb⟩ := hs
 replace HF := Aside0.mk (HF.out.below' hb)
 have HB := Aside0.mk hb
 clear hb
 generalize w.heap.size + 1 + 1 = g5 at b5 ⊢
 generalize w.heap.size + 1 = g4 at b4 HL ⊢
 have hq : ∃ g3, w.heap.size = g3 := ⟨_, rfl⟩
 obtain ⟨g3, hq⟩ := hq
 rw [hq] at b3 ⊢
 clear hq
 have B3 := Aside0.mk b3; have B4 := Aside0.mk b4; have B5 := Aside0.mk b5; clear b3 b4 b5
 have c3_0 := (blk_cell B3.out 0).trans rfl
 have c3_1 := (blk_cell B3.out 1).trans rfl
 have c3_2 := (blk_cell B3.out 2).trans rfl
 have c3_3 := (blk_cell B3.out 3).trans rfl
 have c3_4 := (blk_cell B3.out 4).trans rfl
 have c5_0 := (blk_cell B5.out 0).trans rfl
 have c5_1 := (blk_cell B5.out 1).trans rfl
 go_wp2_with ((with_reducible refine gate_store (t := 91) (p := 4) rfl ?_); refine store_whole rfl rfl 91 _ _ rfl g4 _ 91 rfl B4.out _ rfl rfl rfl (by simp [Value.oneCell']) ?_; intro w6 hb6 hg6; replace HB := Aside0.mk (below_res HB.out hg6 HL.out); replace B4 := Aside0.mk hb6; clear hb6 hg6)
 (try simp only [Exit.inBlock, Exit.then])
 refine bodyPost_ret (results_cell_row rfl _ _ g4 91 _ (0, 0) _ rfl B4.out Tryz.underlying91 rfl (by kernel_rfl)) rfl ?_
 exact ⟨rfl, HB.out⟩
set_option maxHeartbeats 2000000 in
theorem value_other1 (nn : Int) (nm : ByteArray) (xs : List ByteArray) (op : Int) (h : op ≠ 5) (a : S38)  : ValSays w0 g ma A c l N m tr cn gf base mp f ⟨op, nm, nn, xs, [a]⟩ := by
 intro w cs hF hK
 obtain ⟨A3, c3, A4, c4, rfl, g4⟩ := kE_open' hK
 clear hK
 have t5 : (op == 5) = false := ne_bool h
 rw [valE_other1 _ _ _ _ _ _ _ _ h]
 have HF := Aside0.mk hF; have G4 := Aside0.mk g4
 clear hF g4
 go_enter Tryz.func107, Tryz.ntmps107
 go_upto_region 3 with fail
 have hs := start3 w (.cells #[.int .i64 op, .string nm, .int .i64 nn, .slice A3 xs.length c3, .slice A4 1 c4] 38) (.cells #[.int .i64 0, .bool false] 91) (.cells #[.int .i64 0, .bool false] 91)
 have HL := Aside0.mk (show w.heap.size ≤ w.heap.size + 1 by omega)
 generalize ((w.alloc (.cells #[.int .i64 op, .string nm, .int .i64 nn, .slice A3 xs.length c3, .slice A4 1 c4] 38)).alloc (.cells #[.int .i64 0, .bool false] 91)).alloc (.cells #[.int .i64 0, .bool false] 91) = w5 at hs ⊢
 obtain ⟨b3, b4, b5, hb⟩ := hs
 replace HF := Aside0.mk (HF.out.below' hb)
 have HB := Aside0.mk hb
 clear hb
 generalize w.heap.size + 1 + 1 = g5 at b5 ⊢
 generalize w.heap.size + 1 = g4 at b4 HL ⊢
 have hq : ∃ g3, w.heap.size = g3 := ⟨_, rfl⟩
 obtain ⟨g3, hq⟩ := hq
 rw [hq] at b3 ⊢
 clear hq
 have B3 := Aside0.mk b3; have B4 := Aside0.mk b4; have B5 := Aside0.mk b5; clear b3 b4 b5
 have c3_0 := (blk_cell B3.out 0).trans rfl
 have c3_1 := (blk_cell B3.out 1).trans rfl
 have c3_2 := (blk_cell B3.out 2).trans rfl
 have c3_3 := (blk_cell B3.out 3).trans rfl
 have c3_4 := (blk_cell B3.out 4).trans rfl
 have c5_0 := (blk_cell B5.out 0).trans rfl
 have c5_1 := (blk_cell B5.out 1).trans rfl
 go_wp2_with ((with_reducible refine gate_store (t := 91) (p := 4) rfl ?_); refine store_whole rfl rfl 91 _ _ rfl g4 _ 91 rfl B4.out _ rfl rfl rfl (by simp [Value.oneCell']) ?_; intro w6 hb6 hg6; replace HB := Aside0.mk (below_res HB.out hg6 HL.out); replace B4 := Aside0.mk hb6; clear hb6 hg6)
 (try simp only [Exit.inBlock, Exit.then])
 refine bodyPost_ret (results_cell_row rfl _ _ g4 91 _ (0, 0) _ rfl B4.out Tryz.underlying91 rfl (by kernel_rfl)) rfl ?_
 exact ⟨rfl, HB.out⟩
set_option maxHeartbeats 2000000 in
theorem value_other2 (nn : Int) (nm : ByteArray) (xs : List ByteArray) (op : Int) (h : op ≠ 6) (a b : S38)  : ValSays w0 g ma A c l N m tr cn gf base mp f ⟨op, nm, nn, xs, [a, b]⟩ := by
 intro w cs hF hK
 obtain ⟨A3, c3, A4, c4, rfl, g4⟩ := kE_open' hK
 clear hK
 have t6 : (op == 6) = false := ne_bool h
 rw [valE_other2 _ _ _ _ _ _ _ _ _ h]
 have HF := Aside0.mk hF; have G4 := Aside0.mk g4
 clear hF g4
 go_enter Tryz.func107, Tryz.ntmps107
 go_upto_region 3 with fail
 have hs := start3 w (.cells #[.int .i64 op, .string nm, .int .i64 nn, .slice A3 xs.length c3, .slice A4 2 c4] 38) (.cells #[.int .i64 0, .bool false] 91) (.cells #[.int .i64 0, .bool false] 91)
 have HL := Aside0.mk (show w.heap.size ≤ w.heap.size + 1 by omega)
 generalize ((w.alloc (.cells #[.int .i64 op, .string nm, .int .i64 nn, .slice A3 xs.length c3, .slice A4 2 c4] 38)).alloc (.cells #[.int .i64 0, .bool false] 91)).alloc (.cells #[.int .i64 0, .bool false] 91) = w5 at hs ⊢
 obtain ⟨b3, b4, b5, hb⟩ := hs
 replace HF := Aside0.mk (HF.out.below' hb)
 have HB := Aside0.mk hb
 clear hb
 generalize w.heap.size + 1 + 1 = g5 at b5 ⊢
 generalize w.heap.size + 1 = g4 at b4 HL ⊢
 have hq : ∃ g3, w.heap.size = g3 := ⟨_, rfl⟩
 obtain ⟨g3, hq⟩ := hq
 rw [hq] at b3 ⊢
 clear hq
 have B3 := Aside0.mk b3; have B4 := Aside0.mk b4; have B5 := Aside0.mk b5; clear b3 b4 b5
 have c3_0 := (blk_cell B3.out 0).trans rfl
 have c3_1 := (blk_cell B3.out 1).trans rfl
 have c3_2 := (blk_cell B3.out 2).trans rfl
 have c3_3 := (blk_cell B3.out 3).trans rfl
 have c3_4 := (blk_cell B3.out 4).trans rfl
 have c5_0 := (blk_cell B5.out 0).trans rfl
 have c5_1 := (blk_cell B5.out 1).trans rfl
 go_wp2_with ((with_reducible refine gate_store (t := 91) (p := 4) rfl ?_); refine store_whole rfl rfl 91 _ _ rfl g4 _ 91 rfl B4.out _ rfl rfl rfl (by simp [Value.oneCell']) ?_; intro w6 hb6 hg6; replace HB := Aside0.mk (below_res HB.out hg6 HL.out); replace B4 := Aside0.mk hb6; clear hb6 hg6)
 (try simp only [Exit.inBlock, Exit.then])
 refine bodyPost_ret (results_cell_row rfl _ _ g4 91 _ (0, 0) _ rfl B4.out Tryz.underlying91 rfl (by kernel_rfl)) rfl ?_
 exact ⟨rfl, HB.out⟩
set_option maxHeartbeats 2000000 in
theorem value_other3 (nn : Int) (nm : ByteArray) (xs : List ByteArray) (op : Int) (h : op ≠ 7) (k a b : S38)  : ValSays w0 g ma A c l N m tr cn gf base mp f ⟨op, nm, nn, xs, [k, a, b]⟩ := by
 intro w cs hF hK
 obtain ⟨A3, c3, A4, c4, rfl, g4⟩ := kE_open' hK
 clear hK
 have t7 : (op == 7) = false := ne_bool h
 rw [valE_other3 _ _ _ _ _ _ _ _ _ _ h]
 have HF := Aside0.mk hF; have G4 := Aside0.mk g4
 clear hF g4
 go_enter Tryz.func107, Tryz.ntmps107
 go_upto_region 3 with fail
 have hs := start3 w (.cells #[.int .i64 op, .string nm, .int .i64 nn, .slice A3 xs.length c3, .slice A4 3 c4] 38) (.cells #[.int .i64 0, .bool false] 91) (.cells #[.int .i64 0, .bool false] 91)
 have HL := Aside0.mk (show w.heap.size ≤ w.heap.size + 1 by omega)
 generalize ((w.alloc (.cells #[.int .i64 op, .string nm, .int .i64 nn, .slice A3 xs.length c3, .slice A4 3 c4] 38)).alloc (.cells #[.int .i64 0, .bool false] 91)).alloc (.cells #[.int .i64 0, .bool false] 91) = w5 at hs ⊢
 obtain ⟨b3, b4, b5, hb⟩ := hs
 replace HF := Aside0.mk (HF.out.below' hb)
 have HB := Aside0.mk hb
 clear hb
 generalize w.heap.size + 1 + 1 = g5 at b5 ⊢
 generalize w.heap.size + 1 = g4 at b4 HL ⊢
 have hq : ∃ g3, w.heap.size = g3 := ⟨_, rfl⟩
 obtain ⟨g3, hq⟩ := hq
 rw [hq] at b3 ⊢
 clear hq
 have B3 := Aside0.mk b3; have B4 := Aside0.mk b4; have B5 := Aside0.mk b5; clear b3 b4 b5
 have c3_0 := (blk_cell B3.out 0).trans rfl
 have c3_1 := (blk_cell B3.out 1).trans rfl
 have c3_2 := (blk_cell B3.out 2).trans rfl
 have c3_3 := (blk_cell B3.out 3).trans rfl
 have c3_4 := (blk_cell B3.out 4).trans rfl
 have c5_0 := (blk_cell B5.out 0).trans rfl
 have c5_1 := (blk_cell B5.out 1).trans rfl
 go_wp2_with ((with_reducible refine gate_store (t := 91) (p := 4) rfl ?_); refine store_whole rfl rfl 91 _ _ rfl g4 _ 91 rfl B4.out _ rfl rfl rfl (by simp [Value.oneCell']) ?_; intro w6 hb6 hg6; replace HB := Aside0.mk (below_res HB.out hg6 HL.out); replace B4 := Aside0.mk hb6; clear hb6 hg6)
 (try simp only [Exit.inBlock, Exit.then])
 refine bodyPost_ret (results_cell_row rfl _ _ g4 91 _ (0, 0) _ rfl B4.out Tryz.underlying91 rfl (by kernel_rfl)) rfl ?_
 exact ⟨rfl, HB.out⟩
set_option maxHeartbeats 2000000 in
theorem value_many (nn : Int) (nm : ByteArray) (xs : List ByteArray) (op : Int) (kids : List S38) (h : 4 ≤ kids.length)  : ValSays w0 g ma A c l N m tr cn gf base mp f ⟨op, nm, nn, xs, kids⟩ := by
 intro w cs hF hK
 obtain ⟨A3, c3, A4, c4, rfl, g4⟩ := kE_open' hK
 clear hK
 have t0 : ((kids.length : Int) == 0) = false := ne_bool (by omega)
 have t1 : ((kids.length : Int) == 1) = false := ne_bool (by omega)
 have t2 : ((kids.length : Int) == 2) = false := ne_bool (by omega)
 have t3 : ((kids.length : Int) == 3) = false := ne_bool (by omega)
 rw [valE_many _ _ _ _ _ _ _ _ h]
 have HF := Aside0.mk hF; have G4 := Aside0.mk g4
 clear hF g4
 go_enter Tryz.func107, Tryz.ntmps107
 go_upto_region 3 with fail
 have hs := start3 w (.cells #[.int .i64 op, .string nm, .int .i64 nn, .slice A3 xs.length c3, .slice A4 kids.length c4] 38) (.cells #[.int .i64 0, .bool false] 91) (.cells #[.int .i64 0, .bool false] 91)
 have HL := Aside0.mk (show w.heap.size ≤ w.heap.size + 1 by omega)
 generalize ((w.alloc (.cells #[.int .i64 op, .string nm, .int .i64 nn, .slice A3 xs.length c3, .slice A4 kids.length c4] 38)).alloc (.cells #[.int .i64 0, .bool false] 91)).alloc (.cells #[.int .i64 0, .bool false] 91) = w5 at hs ⊢
 obtain ⟨b3, b4, b5, hb⟩ := hs
 replace HF := Aside0.mk (HF.out.below' hb)
 have HB := Aside0.mk hb
 clear hb
 generalize w.heap.size + 1 + 1 = g5 at b5 ⊢
 generalize w.heap.size + 1 = g4 at b4 HL ⊢
 have hq : ∃ g3, w.heap.size = g3 := ⟨_, rfl⟩
 obtain ⟨g3, hq⟩ := hq
 rw [hq] at b3 ⊢
 clear hq
 have B3 := Aside0.mk b3; have B4 := Aside0.mk b4; have B5 := Aside0.mk b5; clear b3 b4 b5
 have c3_0 := (blk_cell B3.out 0).trans rfl
 have c3_1 := (blk_cell B3.out 1).trans rfl
 have c3_2 := (blk_cell B3.out 2).trans rfl
 have c3_3 := (blk_cell B3.out 3).trans rfl
 have c3_4 := (blk_cell B3.out 4).trans rfl
 have c5_0 := (blk_cell B5.out 0).trans rfl
 have c5_1 := (blk_cell B5.out 1).trans rfl
 go_wp2_with ((with_reducible refine gate_store (t := 91) (p := 4) rfl ?_); refine store_whole rfl rfl 91 _ _ rfl g4 _ 91 rfl B4.out _ rfl rfl rfl (by simp [Value.oneCell']) ?_; intro w6 hb6 hg6; replace HB := Aside0.mk (below_res HB.out hg6 HL.out); replace B4 := Aside0.mk hb6; clear hb6 hg6)
 (try simp only [Exit.inBlock, Exit.then])
 refine bodyPost_ret (results_cell_row rfl _ _ g4 91 _ (0, 0) _ rfl B4.out Tryz.underlying91 rfl (by kernel_rfl)) rfl ?_
 exact ⟨rfl, HB.out⟩
set_option maxHeartbeats 2000000 in
theorem value_bin (nn : Int) (nm : ByteArray) (xs : List ByteArray) (a b : S38) (iha : ValSays w0 g ma A c l N m tr cn gf base mp f a) (ihb : ValSays w0 g ma A c l N m tr cn gf base mp f b)  : ValSays w0 g ma A c l N m tr cn gf base mp f ⟨6, nm, nn, xs, [a, b]⟩ := by
 intro w cs hF hK
 obtain ⟨A3, c3, A4, c4, rfl, g4⟩ := kE_open' hK
 clear hK
 cases hva : valE m base f a with
 | none =>
  rw [valE_bin, hva, Option.bind_none]
  have HF := Aside0.mk hF; have G4 := Aside0.mk g4
  clear hF g4
  go_enter Tryz.func107, Tryz.ntmps107
  go_upto_region 3 with fail
  have hs := start3 w (.cells #[.int .i64 6, .string nm, .int .i64 nn, .slice A3 xs.length c3, .slice A4 2 c4] 38) (.cells #[.int .i64 0, .bool false] 91) (.cells #[.int .i64 0, .bool false] 91)
  have HL := Aside0.mk (show w.heap.size ≤ w.heap.size + 1 by omega)
  generalize ((w.alloc (.cells #[.int .i64 6, .string nm, .int .i64 nn, .slice A3 xs.length c3, .slice A4 2 c4] 38)).alloc (.cells #[.int .i64 0, .bool false] 91)).alloc (.cells #[.int .i64 0, .bool false] 91) = w5 at hs ⊢
  obtain ⟨b3, b4, b5, hb⟩ := hs
  replace HF := Aside0.mk (HF.out.below' hb)
  have HB := Aside0.mk hb
  clear hb
  generalize w.heap.size + 1 + 1 = g5 at b5 ⊢
  generalize w.heap.size + 1 = g4 at b4 HL ⊢
  have hq : ∃ g3, w.heap.size = g3 := ⟨_, rfl⟩
  obtain ⟨g3, hq⟩ := hq
  rw [hq] at b3 ⊢
  clear hq
  have B3 := Aside0.mk b3; have B4 := Aside0.mk b4; have B5 := Aside0.mk b5; clear b3 b4 b5
  have c3_0 := (blk_cell B3.out 0).trans rfl
  have c3_1 := (blk_cell B3.out 1).trans rfl
  have c3_2 := (blk_cell B3.out 2).trans rfl
  have c3_3 := (blk_cell B3.out 3).trans rfl
  have c3_4 := (blk_cell B3.out 4).trans rfl
  obtain ⟨aad, aA3, ac3, aA4, ac4, ea, aK, ax0, ax1, ax2, ax3, ax4⟩ := kid_cells HF.out.run.below G4.out 0 (by simp) a rfl
  obtain rfl := ea
  simp only [Nat.zero_mul, Nat.one_mul, Nat.reduceMul, Nat.add_zero, add_zero'] at ax0 ax1 ax2 ax3 ax4
  have HaK := Aside0.mk aK; clear aK
  have hca := vs_none iha hva _ HaK.out
  go_wp2_with fail
  refine (hca _ HF.out).mono ?_
  rintro e w6 ⟨rfl, hb⟩
  replace HB := Aside0.mk (below_step HB.out hb)
  replace B3 := Aside0.mk (below_blk B3.out hb)
  replace B4 := Aside0.mk (below_blk B4.out hb)
  replace B5 := Aside0.mk (below_blk B5.out hb)
  replace HF := Aside0.mk (HF.out.below' hb)
  clear hb
  clear hca
  go_wp2_with fail
  exact ⟨rfl, rfl, HB.out⟩
 | some cv =>
  obtain ⟨v, o⟩ := cv
  rw [valE_bin, hva, Option.bind_some]
  cases hvb : valE m base f b with
  | none =>
   rw [Option.map_none]
   have HF := Aside0.mk hF; have G4 := Aside0.mk g4
   clear hF g4
   go_enter Tryz.func107, Tryz.ntmps107
   go_upto_region 3 with fail
   have hs := start3 w (.cells #[.int .i64 6, .string nm, .int .i64 nn, .slice A3 xs.length c3, .slice A4 2 c4] 38) (.cells #[.int .i64 0, .bool false] 91) (.cells #[.int .i64 0, .bool false] 91)
   have HL := Aside0.mk (show w.heap.size ≤ w.heap.size + 1 by omega)
   generalize ((w.alloc (.cells #[.int .i64 6, .string nm, .int .i64 nn, .slice A3 xs.length c3, .slice A4 2 c4] 38)).alloc (.cells #[.int .i64 0, .bool false] 91)).alloc (.cells #[.int .i64 0, .bool false] 91) = w5 at hs ⊢
   obtain ⟨b3, b4, b5, hb⟩ := hs
   replace HF := Aside0.mk (HF.out.below' hb)
   have HB := Aside0.mk hb
   clear hb
   generalize w.heap.size + 1 + 1 = g5 at b5 ⊢
   generalize w.heap.size + 1 = g4 at b4 HL ⊢
   have hq : ∃ g3, w.heap.size = g3 := ⟨_, rfl⟩
   obtain ⟨g3, hq⟩ := hq
   rw [hq] at b3 ⊢
   clear hq
   have B3 := Aside0.mk b3; have B4 := Aside0.mk b4; have B5 := Aside0.mk b5; clear b3 b4 b5
   have c3_0 := (blk_cell B3.out 0).trans rfl
   have c3_1 := (blk_cell B3.out 1).trans rfl
   have c3_2 := (blk_cell B3.out 2).trans rfl
   have c3_3 := (blk_cell B3.out 3).trans rfl
   have c3_4 := (blk_cell B3.out 4).trans rfl
   obtain ⟨aad, aA3, ac3, aA4, ac4, ea, aK, ax0, ax1, ax2, ax3, ax4⟩ := kid_cells HF.out.run.below G4.out 0 (by simp) a rfl
   obtain rfl := ea
   simp only [Nat.zero_mul, Nat.one_mul, Nat.reduceMul, Nat.add_zero, add_zero'] at ax0 ax1 ax2 ax3 ax4
   have HaK := Aside0.mk aK; clear aK
   have hca := vs_some iha hva _ HaK.out
   go_wp2_with fail
   refine (hca _ HF.out).mono ?_
   rintro e w6 ⟨rfl, hb⟩
   replace HB := Aside0.mk (below_step HB.out hb)
   replace B3 := Aside0.mk (below_blk B3.out hb)
   replace B4 := Aside0.mk (below_blk B4.out hb)
   replace B5 := Aside0.mk (below_blk B5.out hb)
   replace HF := Aside0.mk (HF.out.below' hb)
   clear hb
   clear hca
   clear c3_0 c3_1 c3_2 c3_3 c3_4
   clear ax0 ax1 ax2 ax3 ax4
   go_wp2_with ((with_reducible refine gate_store (t := 91) (p := 10) rfl ?_); refine store_whole rfl rfl 91 _ _ rfl w6.heap.size _ 91 rfl (blk_new _ _) _ rfl rfl rfl (by simp [Value.oneCell']) ?_; intro w2 hb2 hg2; replace B3 := Aside0.mk (blk_as B3.out hg2); replace B4 := Aside0.mk (blk_as B4.out hg2); replace B5 := Aside0.mk (blk_as B5.out hg2); replace HF := Aside0.mk (HF.out.below' (below_as (Below.refl _ _) hg2)); replace HB := Aside0.mk (below_as HB.out hg2); obtain ⟨g10, hq_⟩ : ∃ g_, g_ = w6.heap.size := ⟨_, rfl⟩; rw [← hq_] at hb2; rw [← hq_]; have Bg10 := Aside0.mk hb2; clear hb2 hg2 hq_; have dg10_0 := (blk_cell Bg10.out 0).trans rfl; have dg10_1 := (blk_cell Bg10.out 1).trans rfl; have c3_0 := (blk_cell B3.out 0).trans rfl; have c3_1 := (blk_cell B3.out 1).trans rfl; have c3_2 := (blk_cell B3.out 2).trans rfl; have c3_3 := (blk_cell B3.out 3).trans rfl; have c3_4 := (blk_cell B3.out 4).trans rfl; obtain ⟨bad, bA3, bc3, bA4, bc4, eb, bK, bx0, bx1, bx2, bx3, bx4⟩ := kid_cells HF.out.run.below G4.out 1 (by simp) b rfl; injection eb with eb; subst eb; simp only [Nat.zero_mul, Nat.one_mul, Nat.reduceMul, Nat.add_zero, add_zero'] at bx0 bx1 bx2 bx3 bx4; simp only [add_pos _ _ (show (5 : Nat) ≠ 0 by decide), add_pos _ _ (show (10 : Nat) ≠ 0 by decide)] at bx0 bx1 bx2 bx3 bx4; have HbK := Aside0.mk bK; clear bK)
   have hcb := vs_none ihb hvb _ HbK.out
   refine (hcb _ HF.out).mono ?_
   rintro e w8 ⟨rfl, hb⟩
   replace HB := Aside0.mk (below_step HB.out hb)
   replace B3 := Aside0.mk (below_blk B3.out hb)
   replace B4 := Aside0.mk (below_blk B4.out hb)
   replace B5 := Aside0.mk (below_blk B5.out hb)
   replace Bg10 := Aside0.mk (below_blk Bg10.out hb)
   replace HF := Aside0.mk (HF.out.below' hb)
   clear hb
   clear hcb
   clear c3_0 c3_1 c3_2 c3_3 c3_4
   clear bx0 bx1 bx2 bx3 bx4
   clear dg10_0 dg10_1
   go_wp2_with fail
   exact ⟨rfl, rfl, HB.out⟩
  | some cu =>
   obtain ⟨u, q⟩ := cu
   rw [Option.map_some]
   cases o with
   | false =>
    simp only [Bool.false_and, Bool.false_eq_true, if_false]
    have HF := Aside0.mk hF; have G4 := Aside0.mk g4
    clear hF g4
    go_enter Tryz.func107, Tryz.ntmps107
    go_upto_region 3 with fail
    have hs := start3 w (.cells #[.int .i64 6, .string nm, .int .i64 nn, .slice A3 xs.length c3, .slice A4 2 c4] 38) (.cells #[.int .i64 0, .bool false] 91) (.cells #[.int .i64 0, .bool false] 91)
    have HL := Aside0.mk (show w.heap.size ≤ w.heap.size + 1 by omega)
    generalize ((w.alloc (.cells #[.int .i64 6, .string nm, .int .i64 nn, .slice A3 xs.length c3, .slice A4 2 c4] 38)).alloc (.cells #[.int .i64 0, .bool false] 91)).alloc (.cells #[.int .i64 0, .bool false] 91) = w5 at hs ⊢
    obtain ⟨b3, b4, b5, hb⟩ := hs
    replace HF := Aside0.mk (HF.out.below' hb)
    have HB := Aside0.mk hb
    clear hb
    generalize w.heap.size + 1 + 1 = g5 at b5 ⊢
    generalize w.heap.size + 1 = g4 at b4 HL ⊢
    have hq : ∃ g3, w.heap.size = g3 := ⟨_, rfl⟩
    obtain ⟨g3, hq⟩ := hq
    rw [hq] at b3 ⊢
    clear hq
    have B3 := Aside0.mk b3; have B4 := Aside0.mk b4; have B5 := Aside0.mk b5; clear b3 b4 b5
    have c3_0 := (blk_cell B3.out 0).trans rfl
    have c3_1 := (blk_cell B3.out 1).trans rfl
    have c3_2 := (blk_cell B3.out 2).trans rfl
    have c3_3 := (blk_cell B3.out 3).trans rfl
    have c3_4 := (blk_cell B3.out 4).trans rfl
    obtain ⟨aad, aA3, ac3, aA4, ac4, ea, aK, ax0, ax1, ax2, ax3, ax4⟩ := kid_cells HF.out.run.below G4.out 0 (by simp) a rfl
    obtain rfl := ea
    simp only [Nat.zero_mul, Nat.one_mul, Nat.reduceMul, Nat.add_zero, add_zero'] at ax0 ax1 ax2 ax3 ax4
    have HaK := Aside0.mk aK; clear aK
    have hca := vs_some iha hva _ HaK.out
    go_wp2_with fail
    refine (hca _ HF.out).mono ?_
    rintro e w6 ⟨rfl, hb⟩
    replace HB := Aside0.mk (below_step HB.out hb)
    replace B3 := Aside0.mk (below_blk B3.out hb)
    replace B4 := Aside0.mk (below_blk B4.out hb)
    replace B5 := Aside0.mk (below_blk B5.out hb)
    replace HF := Aside0.mk (HF.out.below' hb)
    clear hb
    clear hca
    clear c3_0 c3_1 c3_2 c3_3 c3_4
    clear ax0 ax1 ax2 ax3 ax4
    go_wp2_with ((with_reducible refine gate_store (t := 91) (p := 10) rfl ?_); refine store_whole rfl rfl 91 _ _ rfl w6.heap.size _ 91 rfl (blk_new _ _) _ rfl rfl rfl (by simp [Value.oneCell']) ?_; intro w2 hb2 hg2; replace B3 := Aside0.mk (blk_as B3.out hg2); replace B4 := Aside0.mk (blk_as B4.out hg2); replace B5 := Aside0.mk (blk_as B5.out hg2); replace HF := Aside0.mk (HF.out.below' (below_as (Below.refl _ _) hg2)); replace HB := Aside0.mk (below_as HB.out hg2); obtain ⟨g10, hq_⟩ : ∃ g_, g_ = w6.heap.size := ⟨_, rfl⟩; rw [← hq_] at hb2; rw [← hq_]; have Bg10 := Aside0.mk hb2; clear hb2 hg2 hq_; have dg10_0 := (blk_cell Bg10.out 0).trans rfl; have dg10_1 := (blk_cell Bg10.out 1).trans rfl; have c3_0 := (blk_cell B3.out 0).trans rfl; have c3_1 := (blk_cell B3.out 1).trans rfl; have c3_2 := (blk_cell B3.out 2).trans rfl; have c3_3 := (blk_cell B3.out 3).trans rfl; have c3_4 := (blk_cell B3.out 4).trans rfl; obtain ⟨bad, bA3, bc3, bA4, bc4, eb, bK, bx0, bx1, bx2, bx3, bx4⟩ := kid_cells HF.out.run.below G4.out 1 (by simp) b rfl; injection eb with eb; subst eb; simp only [Nat.zero_mul, Nat.one_mul, Nat.reduceMul, Nat.add_zero, add_zero'] at bx0 bx1 bx2 bx3 bx4; simp only [add_pos _ _ (show (5 : Nat) ≠ 0 by decide), add_pos _ _ (show (10 : Nat) ≠ 0 by decide)] at bx0 bx1 bx2 bx3 bx4; have HbK := Aside0.mk bK; clear bK)
    have hcb := vs_some ihb hvb _ HbK.out
    refine (hcb _ HF.out).mono ?_
    rintro e w8 ⟨rfl, hb⟩
    replace HB := Aside0.mk (below_step HB.out hb)
    replace B3 := Aside0.mk (below_blk B3.out hb)
    replace B4 := Aside0.mk (below_blk B4.out hb)
    replace B5 := Aside0.mk (below_blk B5.out hb)
    replace Bg10 := Aside0.mk (below_blk Bg10.out hb)
    replace HF := Aside0.mk (HF.out.below' hb)
    clear hb
    clear hcb
    clear c3_0 c3_1 c3_2 c3_3 c3_4
    clear bx0 bx1 bx2 bx3 bx4
    clear dg10_0 dg10_1
    go_wp2_with (first | ((with_reducible refine gate_store (t := 91) (p := 4) rfl ?_); refine store_whole rfl rfl 91 _ _ rfl g4 _ 91 rfl B4.out _ rfl rfl rfl (by simp [Value.oneCell']) ?_; intro w6 hb6 hg6; replace HB := Aside0.mk (below_res HB.out hg6 HL.out); replace B4 := Aside0.mk hb6; clear hb6 hg6) | ((with_reducible refine gate_store (t := 91) (p := 11) rfl ?_); refine store_whole rfl rfl 91 _ _ rfl w8.heap.size _ 91 rfl (blk_new _ _) _ rfl rfl rfl (by simp [Value.oneCell']) ?_; intro w2 hb2 hg2; replace B3 := Aside0.mk (blk_as B3.out hg2); replace B4 := Aside0.mk (blk_as B4.out hg2); replace B5 := Aside0.mk (blk_as B5.out hg2); replace Bg10 := Aside0.mk (blk_as Bg10.out hg2); replace HB := Aside0.mk (below_as HB.out hg2); obtain ⟨g11, hq_⟩ : ∃ g_, g_ = w8.heap.size := ⟨_, rfl⟩; rw [← hq_] at hb2; rw [← hq_]; have Bg11 := Aside0.mk hb2; clear hb2 hg2 hq_; have dg11_0 := (blk_cell Bg11.out 0).trans rfl; have dg11_1 := (blk_cell Bg11.out 1).trans rfl; have c5_0 := (blk_cell B5.out 0).trans rfl; have c5_1 := (blk_cell B5.out 1).trans rfl; have dg10_0 := (blk_cell Bg10.out 0).trans rfl; have dg10_1 := (blk_cell Bg10.out 1).trans rfl))
    (try simp only [Exit.inBlock, Exit.then])
    refine bodyPost_ret (results_cell_row rfl _ _ g4 91 _ (0, 0) _ rfl B4.out Tryz.underlying91 rfl (by kernel_rfl)) rfl ?_
    exact ⟨rfl, HB.out⟩
   | true =>
    cases q with
    | false =>
     simp only [Bool.and_false, Bool.false_eq_true, if_false]
     have HF := Aside0.mk hF; have G4 := Aside0.mk g4
     clear hF g4
     go_enter Tryz.func107, Tryz.ntmps107
     go_upto_region 3 with fail
     have hs := start3 w (.cells #[.int .i64 6, .string nm, .int .i64 nn, .slice A3 xs.length c3, .slice A4 2 c4] 38) (.cells #[.int .i64 0, .bool false] 91) (.cells #[.int .i64 0, .bool false] 91)
     have HL := Aside0.mk (show w.heap.size ≤ w.heap.size + 1 by omega)
     generalize ((w.alloc (.cells #[.int .i64 6, .string nm, .int .i64 nn, .slice A3 xs.length c3, .slice A4 2 c4] 38)).alloc (.cells #[.int .i64 0, .bool false] 91)).alloc (.cells #[.int .i64 0, .bool false] 91) = w5 at hs ⊢
     obtain ⟨b3, b4, b5, hb⟩ := hs
     replace HF := Aside0.mk (HF.out.below' hb)
     have HB := Aside0.mk hb
     clear hb
     generalize w.heap.size + 1 + 1 = g5 at b5 ⊢
     generalize w.heap.size + 1 = g4 at b4 HL ⊢
     have hq : ∃ g3, w.heap.size = g3 := ⟨_, rfl⟩
     obtain ⟨g3, hq⟩ := hq
     rw [hq] at b3 ⊢
     clear hq
     have B3 := Aside0.mk b3; have B4 := Aside0.mk b4; have B5 := Aside0.mk b5; clear b3 b4 b5
     have c3_0 := (blk_cell B3.out 0).trans rfl
     have c3_1 := (blk_cell B3.out 1).trans rfl
     have c3_2 := (blk_cell B3.out 2).trans rfl
     have c3_3 := (blk_cell B3.out 3).trans rfl
     have c3_4 := (blk_cell B3.out 4).trans rfl
     obtain ⟨aad, aA3, ac3, aA4, ac4, ea, aK, ax0, ax1, ax2, ax3, ax4⟩ := kid_cells HF.out.run.below G4.out 0 (by simp) a rfl
     obtain rfl := ea
     simp only [Nat.zero_mul, Nat.one_mul, Nat.reduceMul, Nat.add_zero, add_zero'] at ax0 ax1 ax2 ax3 ax4
     have HaK := Aside0.mk aK; clear aK
     have hca := vs_some iha hva _ HaK.out
     go_wp2_with fail
     refine (hca _ HF.out).mono ?_
     rintro e w6 ⟨rfl, hb⟩
     replace HB := Aside0.mk (below_step HB.out hb)
     replace B3 := Aside0.mk (below_blk B3.out hb)
     replace B4 := Aside0.mk (below_blk B4.out hb)
     replace B5 := Aside0.mk (below_blk B5.out hb)
     replace HF := Aside0.mk (HF.out.below' hb)
     clear hb
     clear hca
     clear c3_0 c3_1 c3_2 c3_3 c3_4
     clear ax0 ax1 ax2 ax3 ax4
     go_wp2_with ((with_reducible refine gate_store (t := 91) (p := 10) rfl ?_); refine store_whole rfl rfl 91 _ _ rfl w6.heap.size _ 91 rfl (blk_new _ _) _ rfl rfl rfl (by simp [Value.oneCell']) ?_; intro w2 hb2 hg2; replace B3 := Aside0.mk (blk_as B3.out hg2); replace B4 := Aside0.mk (blk_as B4.out hg2); replace B5 := Aside0.mk (blk_as B5.out hg2); replace HF := Aside0.mk (HF.out.below' (below_as (Below.refl _ _) hg2)); replace HB := Aside0.mk (below_as HB.out hg2); obtain ⟨g10, hq_⟩ : ∃ g_, g_ = w6.heap.size := ⟨_, rfl⟩; rw [← hq_] at hb2; rw [← hq_]; have Bg10 := Aside0.mk hb2; clear hb2 hg2 hq_; have dg10_0 := (blk_cell Bg10.out 0).trans rfl; have dg10_1 := (blk_cell Bg10.out 1).trans rfl; have c3_0 := (blk_cell B3.out 0).trans rfl; have c3_1 := (blk_cell B3.out 1).trans rfl; have c3_2 := (blk_cell B3.out 2).trans rfl; have c3_3 := (blk_cell B3.out 3).trans rfl; have c3_4 := (blk_cell B3.out 4).trans rfl; obtain ⟨bad, bA3, bc3, bA4, bc4, eb, bK, bx0, bx1, bx2, bx3, bx4⟩ := kid_cells HF.out.run.below G4.out 1 (by simp) b rfl; injection eb with eb; subst eb; simp only [Nat.zero_mul, Nat.one_mul, Nat.reduceMul, Nat.add_zero, add_zero'] at bx0 bx1 bx2 bx3 bx4; simp only [add_pos _ _ (show (5 : Nat) ≠ 0 by decide), add_pos _ _ (show (10 : Nat) ≠ 0 by decide)] at bx0 bx1 bx2 bx3 bx4; have HbK := Aside0.mk bK; clear bK)
     have hcb := vs_some ihb hvb _ HbK.out
     refine (hcb _ HF.out).mono ?_
     rintro e w8 ⟨rfl, hb⟩
     replace HB := Aside0.mk (below_step HB.out hb)
     replace B3 := Aside0.mk (below_blk B3.out hb)
     replace B4 := Aside0.mk (below_blk B4.out hb)
     replace B5 := Aside0.mk (below_blk B5.out hb)
     replace Bg10 := Aside0.mk (below_blk Bg10.out hb)
     replace HF := Aside0.mk (HF.out.below' hb)
     clear hb
     clear hcb
     clear c3_0 c3_1 c3_2 c3_3 c3_4
     clear bx0 bx1 bx2 bx3 bx4
     clear dg10_0 dg10_1
     go_wp2_with (first | ((with_reducible refine gate_store (t := 91) (p := 4) rfl ?_); refine store_whole rfl rfl 91 _ _ rfl g4 _ 91 rfl B4.out _ rfl rfl rfl (by simp [Value.oneCell']) ?_; intro w6 hb6 hg6; replace HB := Aside0.mk (below_res HB.out hg6 HL.out); replace B4 := Aside0.mk hb6; clear hb6 hg6) | ((with_reducible refine gate_store (t := 91) (p := 11) rfl ?_); refine store_whole rfl rfl 91 _ _ rfl w8.heap.size _ 91 rfl (blk_new _ _) _ rfl rfl rfl (by simp [Value.oneCell']) ?_; intro w2 hb2 hg2; replace B3 := Aside0.mk (blk_as B3.out hg2); replace B4 := Aside0.mk (blk_as B4.out hg2); replace B5 := Aside0.mk (blk_as B5.out hg2); replace Bg10 := Aside0.mk (blk_as Bg10.out hg2); replace HB := Aside0.mk (below_as HB.out hg2); obtain ⟨g11, hq_⟩ : ∃ g_, g_ = w8.heap.size := ⟨_, rfl⟩; rw [← hq_] at hb2; rw [← hq_]; have Bg11 := Aside0.mk hb2; clear hb2 hg2 hq_; have dg11_0 := (blk_cell Bg11.out 0).trans rfl; have dg11_1 := (blk_cell Bg11.out 1).trans rfl; have c5_0 := (blk_cell B5.out 0).trans rfl; have c5_1 := (blk_cell B5.out 1).trans rfl; have dg10_0 := (blk_cell Bg10.out 0).trans rfl; have dg10_1 := (blk_cell Bg10.out 1).trans rfl))
     (try simp only [Exit.inBlock, Exit.then])
     refine bodyPost_ret (results_cell_row rfl _ _ g4 91 _ (0, 0) _ rfl B4.out Tryz.underlying91 rfl (by kernel_rfl)) rfl ?_
     exact ⟨rfl, HB.out⟩
    | true =>
     simp only [Bool.and_self, if_true]
     obtain ⟨t, ht⟩ : ∃ t, binV nm v u = t := ⟨_, rfl⟩
     rw [ht]
     have hbn := fun W => bin_calls nm v u W
     rw [ht] at hbn
     clear ht
     have HF := Aside0.mk hF; have G4 := Aside0.mk g4
     clear hF g4
     go_enter Tryz.func107, Tryz.ntmps107
     go_upto_region 3 with fail
     have hs := start3 w (.cells #[.int .i64 6, .string nm, .int .i64 nn, .slice A3 xs.length c3, .slice A4 2 c4] 38) (.cells #[.int .i64 0, .bool false] 91) (.cells #[.int .i64 0, .bool false] 91)
     have HL := Aside0.mk (show w.heap.size ≤ w.heap.size + 1 by omega)
     generalize ((w.alloc (.cells #[.int .i64 6, .string nm, .int .i64 nn, .slice A3 xs.length c3, .slice A4 2 c4] 38)).alloc (.cells #[.int .i64 0, .bool false] 91)).alloc (.cells #[.int .i64 0, .bool false] 91) = w5 at hs ⊢
     obtain ⟨b3, b4, b5, hb⟩ := hs
     replace HF := Aside0.mk (HF.out.below' hb)
     have HB := Aside0.mk hb
     clear hb
     generalize w.heap.size + 1 + 1 = g5 at b5 ⊢
     generalize w.heap.size + 1 = g4 at b4 HL ⊢
     have hq : ∃ g3, w.heap.size = g3 := ⟨_, rfl⟩
     obtain ⟨g3, hq⟩ := hq
     rw [hq] at b3 ⊢
     clear hq
     have B3 := Aside0.mk b3; have B4 := Aside0.mk b4; have B5 := Aside0.mk b5; clear b3 b4 b5
     have c3_0 := (blk_cell B3.out 0).trans rfl
     have c3_1 := (blk_cell B3.out 1).trans rfl
     have c3_2 := (blk_cell B3.out 2).trans rfl
     have c3_3 := (blk_cell B3.out 3).trans rfl
     have c3_4 := (blk_cell B3.out 4).trans rfl
     obtain ⟨aad, aA3, ac3, aA4, ac4, ea, aK, ax0, ax1, ax2, ax3, ax4⟩ := kid_cells HF.out.run.below G4.out 0 (by simp) a rfl
     obtain rfl := ea
     simp only [Nat.zero_mul, Nat.one_mul, Nat.reduceMul, Nat.add_zero, add_zero'] at ax0 ax1 ax2 ax3 ax4
     have HaK := Aside0.mk aK; clear aK
     have hca := vs_some iha hva _ HaK.out
     go_wp2_with fail
     refine (hca _ HF.out).mono ?_
     rintro e w6 ⟨rfl, hb⟩
     replace HB := Aside0.mk (below_step HB.out hb)
     replace B3 := Aside0.mk (below_blk B3.out hb)
     replace B4 := Aside0.mk (below_blk B4.out hb)
     replace B5 := Aside0.mk (below_blk B5.out hb)
     replace HF := Aside0.mk (HF.out.below' hb)
     clear hb
     clear hca
     clear c3_0 c3_1 c3_2 c3_3 c3_4
     clear ax0 ax1 ax2 ax3 ax4
     go_wp2_with ((with_reducible refine gate_store (t := 91) (p := 10) rfl ?_); refine store_whole rfl rfl 91 _ _ rfl w6.heap.size _ 91 rfl (blk_new _ _) _ rfl rfl rfl (by simp [Value.oneCell']) ?_; intro w2 hb2 hg2; replace B3 := Aside0.mk (blk_as B3.out hg2); replace B4 := Aside0.mk (blk_as B4.out hg2); replace B5 := Aside0.mk (blk_as B5.out hg2); replace HF := Aside0.mk (HF.out.below' (below_as (Below.refl _ _) hg2)); replace HB := Aside0.mk (below_as HB.out hg2); obtain ⟨g10, hq_⟩ : ∃ g_, g_ = w6.heap.size := ⟨_, rfl⟩; rw [← hq_] at hb2; rw [← hq_]; have Bg10 := Aside0.mk hb2; clear hb2 hg2 hq_; have dg10_0 := (blk_cell Bg10.out 0).trans rfl; have dg10_1 := (blk_cell Bg10.out 1).trans rfl; have c3_0 := (blk_cell B3.out 0).trans rfl; have c3_1 := (blk_cell B3.out 1).trans rfl; have c3_2 := (blk_cell B3.out 2).trans rfl; have c3_3 := (blk_cell B3.out 3).trans rfl; have c3_4 := (blk_cell B3.out 4).trans rfl; obtain ⟨bad, bA3, bc3, bA4, bc4, eb, bK, bx0, bx1, bx2, bx3, bx4⟩ := kid_cells HF.out.run.below G4.out 1 (by simp) b rfl; injection eb with eb; subst eb; simp only [Nat.zero_mul, Nat.one_mul, Nat.reduceMul, Nat.add_zero, add_zero'] at bx0 bx1 bx2 bx3 bx4; simp only [add_pos _ _ (show (5 : Nat) ≠ 0 by decide), add_pos _ _ (show (10 : Nat) ≠ 0 by decide)] at bx0 bx1 bx2 bx3 bx4; have HbK := Aside0.mk bK; clear bK)
     have hcb := vs_some ihb hvb _ HbK.out
     refine (hcb _ HF.out).mono ?_
     rintro e w8 ⟨rfl, hb⟩
     replace HB := Aside0.mk (below_step HB.out hb)
     replace B3 := Aside0.mk (below_blk B3.out hb)
     replace B4 := Aside0.mk (below_blk B4.out hb)
     replace B5 := Aside0.mk (below_blk B5.out hb)
     replace Bg10 := Aside0.mk (below_blk Bg10.out hb)
     replace HF := Aside0.mk (HF.out.below' hb)
     clear hb
     clear hcb
     clear c3_0 c3_1 c3_2 c3_3 c3_4
     clear bx0 bx1 bx2 bx3 bx4
     clear dg10_0 dg10_1
     go_wp2_with ((with_reducible refine gate_store (t := 91) (p := 11) rfl ?_); refine store_whole rfl rfl 91 _ _ rfl w8.heap.size _ 91 rfl (blk_new _ _) _ rfl rfl rfl (by simp [Value.oneCell']) ?_; intro w2 hb2 hg2; replace B3 := Aside0.mk (blk_as B3.out hg2); replace B4 := Aside0.mk (blk_as B4.out hg2); replace B5 := Aside0.mk (blk_as B5.out hg2); replace Bg10 := Aside0.mk (blk_as Bg10.out hg2); replace HB := Aside0.mk (below_as HB.out hg2); obtain ⟨g11, hq_⟩ : ∃ g_, g_ = w8.heap.size := ⟨_, rfl⟩; rw [← hq_] at hb2; rw [← hq_]; have Bg11 := Aside0.mk hb2; clear hb2 hg2 hq_; have dg11_0 := (blk_cell Bg11.out 0).trans rfl; have dg11_1 := (blk_cell Bg11.out 1).trans rfl; have c3_0 := (blk_cell B3.out 0).trans rfl; have c3_1 := (blk_cell B3.out 1).trans rfl; have c3_2 := (blk_cell B3.out 2).trans rfl; have c3_3 := (blk_cell B3.out 3).trans rfl; have c3_4 := (blk_cell B3.out 4).trans rfl; have dg10_0 := (blk_cell Bg10.out 0).trans rfl; have dg10_1 := (blk_cell Bg10.out 1).trans rfl)
     refine (hbn _).mono ?_
     rintro e w10 ⟨rfl, hb⟩
     replace HB := Aside0.mk (below_step HB.out hb)
     replace B4 := Aside0.mk (below_blk B4.out hb)
     clear hbn hb
     clear c3_0 c3_1 c3_2 c3_3 c3_4
     clear dg10_0 dg10_1 dg11_0 dg11_1
     go_wp2_with ((with_reducible refine gate_store (t := 91) (p := 4) rfl ?_); refine store_whole rfl rfl 91 _ _ rfl g4 _ 91 rfl B4.out _ rfl rfl rfl (by simp [Value.oneCell']) ?_; intro w6 hb6 hg6; replace HB := Aside0.mk (below_res HB.out hg6 HL.out); replace B4 := Aside0.mk hb6; clear hb6 hg6)
     (try simp only [Exit.inBlock, Exit.then])
     refine bodyPost_ret (results_cell_row rfl _ _ g4 91 _ (0, 0) _ rfl B4.out Tryz.underlying91 rfl (by kernel_rfl)) rfl ?_
     exact ⟨rfl, HB.out⟩
set_option maxHeartbeats 2000000 in
theorem value_if (nn : Int) (nm : ByteArray) (xs : List ByteArray) (k a b : S38) (ihk : ValSays w0 g ma A c l N m tr cn gf base mp f k) (iha : ValSays w0 g ma A c l N m tr cn gf base mp f a) (ihb : ValSays w0 g ma A c l N m tr cn gf base mp f b)  : ValSays w0 g ma A c l N m tr cn gf base mp f ⟨7, nm, nn, xs, [k, a, b]⟩ := by
 intro w cs hF hK
 obtain ⟨A3, c3, A4, c4, rfl, g4⟩ := kE_open' hK
 clear hK
 cases hvk : valE m base f k with
 | none =>
  rw [valE_if, hvk, Option.bind_none]
  have HF := Aside0.mk hF; have G4 := Aside0.mk g4
  clear hF g4
  go_enter Tryz.func107, Tryz.ntmps107
  go_upto_region 3 with fail
  have hs := start3 w (.cells #[.int .i64 7, .string nm, .int .i64 nn, .slice A3 xs.length c3, .slice A4 3 c4] 38) (.cells #[.int .i64 0, .bool false] 91) (.cells #[.int .i64 0, .bool false] 91)
  have HL := Aside0.mk (show w.heap.size ≤ w.heap.size + 1 by omega)
  generalize ((w.alloc (.cells #[.int .i64 7, .string nm, .int .i64 nn, .slice A3 xs.length c3, .slice A4 3 c4] 38)).alloc (.cells #[.int .i64 0, .bool false] 91)).alloc (.cells #[.int .i64 0, .bool false] 91) = w5 at hs ⊢
  obtain ⟨b3, b4, b5, hb⟩ := hs
  replace HF := Aside0.mk (HF.out.below' hb)
  have HB := Aside0.mk hb
  clear hb
  generalize w.heap.size + 1 + 1 = g5 at b5 ⊢
  generalize w.heap.size + 1 = g4 at b4 HL ⊢
  have hq : ∃ g3, w.heap.size = g3 := ⟨_, rfl⟩
  obtain ⟨g3, hq⟩ := hq
  rw [hq] at b3 ⊢
  clear hq
  have B3 := Aside0.mk b3; have B4 := Aside0.mk b4; have B5 := Aside0.mk b5; clear b3 b4 b5
  have c3_0 := (blk_cell B3.out 0).trans rfl
  have c3_1 := (blk_cell B3.out 1).trans rfl
  have c3_2 := (blk_cell B3.out 2).trans rfl
  have c3_3 := (blk_cell B3.out 3).trans rfl
  have c3_4 := (blk_cell B3.out 4).trans rfl
  obtain ⟨kad, kA3, kc3, kA4, kc4, ek, kK, kx0, kx1, kx2, kx3, kx4⟩ := kid_cells HF.out.run.below G4.out 0 (by simp) k rfl
  obtain rfl := ek
  simp only [Nat.zero_mul, Nat.one_mul, Nat.reduceMul, Nat.add_zero, add_zero'] at kx0 kx1 kx2 kx3 kx4
  have HkK := Aside0.mk kK; clear kK
  have hck := vs_none ihk hvk _ HkK.out
  go_wp2_with fail
  refine (hck _ HF.out).mono ?_
  rintro e w6 ⟨rfl, hb⟩
  replace HB := Aside0.mk (below_step HB.out hb)
  replace B3 := Aside0.mk (below_blk B3.out hb)
  replace B4 := Aside0.mk (below_blk B4.out hb)
  replace B5 := Aside0.mk (below_blk B5.out hb)
  replace HF := Aside0.mk (HF.out.below' hb)
  clear hb
  clear hck
  go_wp2_with fail
  exact ⟨rfl, rfl, HB.out⟩
 | some cv =>
  obtain ⟨v, o⟩ := cv
  rw [valE_if, hvk, Option.bind_some]
  cases o with
  | false =>
   simp only [Bool.false_eq_true, if_false]
   have HF := Aside0.mk hF; have G4 := Aside0.mk g4
   clear hF g4
   go_enter Tryz.func107, Tryz.ntmps107
   go_upto_region 3 with fail
   have hs := start3 w (.cells #[.int .i64 7, .string nm, .int .i64 nn, .slice A3 xs.length c3, .slice A4 3 c4] 38) (.cells #[.int .i64 0, .bool false] 91) (.cells #[.int .i64 0, .bool false] 91)
   have HL := Aside0.mk (show w.heap.size ≤ w.heap.size + 1 by omega)
   generalize ((w.alloc (.cells #[.int .i64 7, .string nm, .int .i64 nn, .slice A3 xs.length c3, .slice A4 3 c4] 38)).alloc (.cells #[.int .i64 0, .bool false] 91)).alloc (.cells #[.int .i64 0, .bool false] 91) = w5 at hs ⊢
   obtain ⟨b3, b4, b5, hb⟩ := hs
   replace HF := Aside0.mk (HF.out.below' hb)
   have HB := Aside0.mk hb
   clear hb
   generalize w.heap.size + 1 + 1 = g5 at b5 ⊢
   generalize w.heap.size + 1 = g4 at b4 HL ⊢
   have hq : ∃ g3, w.heap.size = g3 := ⟨_, rfl⟩
   obtain ⟨g3, hq⟩ := hq
   rw [hq] at b3 ⊢
   clear hq
   have B3 := Aside0.mk b3; have B4 := Aside0.mk b4; have B5 := Aside0.mk b5; clear b3 b4 b5
   have c3_0 := (blk_cell B3.out 0).trans rfl
   have c3_1 := (blk_cell B3.out 1).trans rfl
   have c3_2 := (blk_cell B3.out 2).trans rfl
   have c3_3 := (blk_cell B3.out 3).trans rfl
   have c3_4 := (blk_cell B3.out 4).trans rfl
   obtain ⟨kad, kA3, kc3, kA4, kc4, ek, kK, kx0, kx1, kx2, kx3, kx4⟩ := kid_cells HF.out.run.below G4.out 0 (by simp) k rfl
   obtain rfl := ek
   simp only [Nat.zero_mul, Nat.one_mul, Nat.reduceMul, Nat.add_zero, add_zero'] at kx0 kx1 kx2 kx3 kx4
   have HkK := Aside0.mk kK; clear kK
   have hck := vs_some ihk hvk _ HkK.out
   go_wp2_with fail
   refine (hck _ HF.out).mono ?_
   rintro e w6 ⟨rfl, hb⟩
   replace HB := Aside0.mk (below_step HB.out hb)
   replace B3 := Aside0.mk (below_blk B3.out hb)
   replace B4 := Aside0.mk (below_blk B4.out hb)
   replace B5 := Aside0.mk (below_blk B5.out hb)
   replace HF := Aside0.mk (HF.out.below' hb)
   clear hb
   clear hck
   clear c3_0 c3_1 c3_2 c3_3 c3_4
   clear kx0 kx1 kx2 kx3 kx4
   go_wp2_with (first | ((with_reducible refine gate_store (t := 91) (p := 4) rfl ?_); refine store_whole rfl rfl 91 _ _ rfl g4 _ 91 rfl B4.out _ rfl rfl rfl (by simp [Value.oneCell']) ?_; intro w6 hb6 hg6; replace HB := Aside0.mk (below_res HB.out hg6 HL.out); replace B4 := Aside0.mk hb6; clear hb6 hg6) | ((with_reducible refine gate_store (t := 91) (p := 14) rfl ?_); refine store_whole rfl rfl 91 _ _ rfl w6.heap.size _ 91 rfl (blk_new _ _) _ rfl rfl rfl (by simp [Value.oneCell']) ?_; intro w2 hb2 hg2; replace B3 := Aside0.mk (blk_as B3.out hg2); replace B4 := Aside0.mk (blk_as B4.out hg2); replace B5 := Aside0.mk (blk_as B5.out hg2); replace HB := Aside0.mk (below_as HB.out hg2); obtain ⟨g14, hq_⟩ : ∃ g_, g_ = w6.heap.size := ⟨_, rfl⟩; rw [← hq_] at hb2; rw [← hq_]; have Bg14 := Aside0.mk hb2; clear hb2 hg2 hq_; have dg14_0 := (blk_cell Bg14.out 0).trans rfl; have dg14_1 := (blk_cell Bg14.out 1).trans rfl; have c5_0 := (blk_cell B5.out 0).trans rfl; have c5_1 := (blk_cell B5.out 1).trans rfl))
   (try simp only [Exit.inBlock, Exit.then])
   refine bodyPost_ret (results_cell_row rfl _ _ g4 91 _ (0, 0) _ rfl B4.out Tryz.underlying91 rfl (by kernel_rfl)) rfl ?_
   exact ⟨rfl, HB.out⟩
  | true =>
   simp only [if_true]
   by_cases h0 : v = 0
   ·rw [if_pos h0]
    have t0 : (v != 0) = false := by rw [h0]; rfl
    clear h0
    cases hvb : valE m base f b with
    | none =>
     have HF := Aside0.mk hF; have G4 := Aside0.mk g4
     clear hF g4
     go_enter Tryz.func107, Tryz.ntmps107
     go_upto_region 3 with fail
     have hs := start3 w (.cells #[.int .i64 7, .string nm, .int .i64 nn, .slice A3 xs.length c3, .slice A4 3 c4] 38) (.cells #[.int .i64 0, .bool false] 91) (.cells #[.int .i64 0, .bool false] 91)
     have HL := Aside0.mk (show w.heap.size ≤ w.heap.size + 1 by omega)
     generalize ((w.alloc (.cells #[.int .i64 7, .string nm, .int .i64 nn, .slice A3 xs.length c3, .slice A4 3 c4] 38)).alloc (.cells #[.int .i64 0, .bool false] 91)).alloc (.cells #[.int .i64 0, .bool false] 91) = w5 at hs ⊢
     obtain ⟨b3, b4, b5, hb⟩ := hs
     replace HF := Aside0.mk (HF.out.below' hb)
     have HB := Aside0.mk hb
     clear hb
     generalize w.heap.size + 1 + 1 = g5 at b5 ⊢
     generalize w.heap.size + 1 = g4 at b4 HL ⊢
     have hq : ∃ g3, w.heap.size = g3 := ⟨_, rfl⟩
     obtain ⟨g3, hq⟩ := hq
     rw [hq] at b3 ⊢
     clear hq
     have B3 := Aside0.mk b3; have B4 := Aside0.mk b4; have B5 := Aside0.mk b5; clear b3 b4 b5
     have c3_0 := (blk_cell B3.out 0).trans rfl
     have c3_1 := (blk_cell B3.out 1).trans rfl
     have c3_2 := (blk_cell B3.out 2).trans rfl
     have c3_3 := (blk_cell B3.out 3).trans rfl
     have c3_4 := (blk_cell B3.out 4).trans rfl
     obtain ⟨kad, kA3, kc3, kA4, kc4, ek, kK, kx0, kx1, kx2, kx3, kx4⟩ := kid_cells HF.out.run.below G4.out 0 (by simp) k rfl
     obtain rfl := ek
     simp only [Nat.zero_mul, Nat.one_mul, Nat.reduceMul, Nat.add_zero, add_zero'] at kx0 kx1 kx2 kx3 kx4
     have HkK := Aside0.mk kK; clear kK
     have hck := vs_some ihk hvk _ HkK.out
     go_wp2_with fail
     refine (hck _ HF.out).mono ?_
     rintro e w6 ⟨rfl, hb⟩
     replace HB := Aside0.mk (below_step HB.out hb)
     replace B3 := Aside0.mk (below_blk B3.out hb)
     replace B4 := Aside0.mk (below_blk B4.out hb)
     replace B5 := Aside0.mk (below_blk B5.out hb)
     replace HF := Aside0.mk (HF.out.below' hb)
     clear hb
     clear hck
     clear c3_0 c3_1 c3_2 c3_3 c3_4
     clear kx0 kx1 kx2 kx3 kx4
     go_wp2_with ((with_reducible refine gate_store (t := 91) (p := 14) rfl ?_); refine store_whole rfl rfl 91 _ _ rfl w6.heap.size _ 91 rfl (blk_new _ _) _ rfl rfl rfl (by simp [Value.oneCell']) ?_; intro w2 hb2 hg2; replace B3 := Aside0.mk (blk_as B3.out hg2); replace B4 := Aside0.mk (blk_as B4.out hg2); replace B5 := Aside0.mk (blk_as B5.out hg2); replace HF := Aside0.mk (HF.out.below' (below_as (Below.refl _ _) hg2)); replace HB := Aside0.mk (below_as HB.out hg2); obtain ⟨g14, hq_⟩ : ∃ g_, g_ = w6.heap.size := ⟨_, rfl⟩; rw [← hq_] at hb2; rw [← hq_]; have Bg14 := Aside0.mk hb2; clear hb2 hg2 hq_; have dg14_0 := (blk_cell Bg14.out 0).trans rfl; have dg14_1 := (blk_cell Bg14.out 1).trans rfl; have c3_0 := (blk_cell B3.out 0).trans rfl; have c3_1 := (blk_cell B3.out 1).trans rfl; have c3_2 := (blk_cell B3.out 2).trans rfl; have c3_3 := (blk_cell B3.out 3).trans rfl; have c3_4 := (blk_cell B3.out 4).trans rfl; obtain ⟨bad, bA3, bc3, bA4, bc4, eb, bK, bx0, bx1, bx2, bx3, bx4⟩ := kid_cells HF.out.run.below G4.out 2 (by simp) b rfl; injection eb with eb; subst eb; simp only [Nat.zero_mul, Nat.one_mul, Nat.reduceMul, Nat.add_zero, add_zero'] at bx0 bx1 bx2 bx3 bx4; simp only [add_pos _ _ (show (5 : Nat) ≠ 0 by decide), add_pos _ _ (show (10 : Nat) ≠ 0 by decide)] at bx0 bx1 bx2 bx3 bx4; have HbK := Aside0.mk bK; clear bK)
     have hcb := vs_none ihb hvb _ HbK.out
     refine (hcb _ HF.out).mono ?_
     rintro e w8 ⟨rfl, hb⟩
     replace HB := Aside0.mk (below_step HB.out hb)
     replace B4 := Aside0.mk (below_blk B4.out hb)
     replace HF := Aside0.mk (HF.out.below' hb)
     clear hb
     clear hcb
     clear c3_0 c3_1 c3_2 c3_3 c3_4
     clear bx0 bx1 bx2 bx3 bx4
     clear dg14_0 dg14_1
     go_wp2_with fail
     exact ⟨rfl, rfl, HB.out⟩
    | some cu =>
     obtain ⟨u, q⟩ := cu
     have HF := Aside0.mk hF; have G4 := Aside0.mk g4
     clear hF g4
     go_enter Tryz.func107, Tryz.ntmps107
     go_upto_region 3 with fail
     have hs := start3 w (.cells #[.int .i64 7, .string nm, .int .i64 nn, .slice A3 xs.length c3, .slice A4 3 c4] 38) (.cells #[.int .i64 0, .bool false] 91) (.cells #[.int .i64 0, .bool false] 91)
     have HL := Aside0.mk (show w.heap.size ≤ w.heap.size + 1 by omega)
     generalize ((w.alloc (.cells #[.int .i64 7, .string nm, .int .i64 nn, .slice A3 xs.length c3, .slice A4 3 c4] 38)).alloc (.cells #[.int .i64 0, .bool false] 91)).alloc (.cells #[.int .i64 0, .bool false] 91) = w5 at hs ⊢
     obtain ⟨b3, b4, b5, hb⟩ := hs
     replace HF := Aside0.mk (HF.out.below' hb)
     have HB := Aside0.mk hb
     clear hb
     generalize w.heap.size + 1 + 1 = g5 at b5 ⊢
     generalize w.heap.size + 1 = g4 at b4 HL ⊢
     have hq : ∃ g3, w.heap.size = g3 := ⟨_, rfl⟩
     obtain ⟨g3, hq⟩ := hq
     rw [hq] at b3 ⊢
     clear hq
     have B3 := Aside0.mk b3; have B4 := Aside0.mk b4; have B5 := Aside0.mk b5; clear b3 b4 b5
     have c3_0 := (blk_cell B3.out 0).trans rfl
     have c3_1 := (blk_cell B3.out 1).trans rfl
     have c3_2 := (blk_cell B3.out 2).trans rfl
     have c3_3 := (blk_cell B3.out 3).trans rfl
     have c3_4 := (blk_cell B3.out 4).trans rfl
     obtain ⟨kad, kA3, kc3, kA4, kc4, ek, kK, kx0, kx1, kx2, kx3, kx4⟩ := kid_cells HF.out.run.below G4.out 0 (by simp) k rfl
     obtain rfl := ek
     simp only [Nat.zero_mul, Nat.one_mul, Nat.reduceMul, Nat.add_zero, add_zero'] at kx0 kx1 kx2 kx3 kx4
     have HkK := Aside0.mk kK; clear kK
     have hck := vs_some ihk hvk _ HkK.out
     go_wp2_with fail
     refine (hck _ HF.out).mono ?_
     rintro e w6 ⟨rfl, hb⟩
     replace HB := Aside0.mk (below_step HB.out hb)
     replace B3 := Aside0.mk (below_blk B3.out hb)
     replace B4 := Aside0.mk (below_blk B4.out hb)
     replace B5 := Aside0.mk (below_blk B5.out hb)
     replace HF := Aside0.mk (HF.out.below' hb)
     clear hb
     clear hck
     clear c3_0 c3_1 c3_2 c3_3 c3_4
     clear kx0 kx1 kx2 kx3 kx4
     go_wp2_with ((with_reducible refine gate_store (t := 91) (p := 14) rfl ?_); refine store_whole rfl rfl 91 _ _ rfl w6.heap.size _ 91 rfl (blk_new _ _) _ rfl rfl rfl (by simp [Value.oneCell']) ?_; intro w2 hb2 hg2; replace B3 := Aside0.mk (blk_as B3.out hg2); replace B4 := Aside0.mk (blk_as B4.out hg2); replace B5 := Aside0.mk (blk_as B5.out hg2); replace HF := Aside0.mk (HF.out.below' (below_as (Below.refl _ _) hg2)); replace HB := Aside0.mk (below_as HB.out hg2); obtain ⟨g14, hq_⟩ : ∃ g_, g_ = w6.heap.size := ⟨_, rfl⟩; rw [← hq_] at hb2; rw [← hq_]; have Bg14 := Aside0.mk hb2; clear hb2 hg2 hq_; have dg14_0 := (blk_cell Bg14.out 0).trans rfl; have dg14_1 := (blk_cell Bg14.out 1).trans rfl; have c3_0 := (blk_cell B3.out 0).trans rfl; have c3_1 := (blk_cell B3.out 1).trans rfl; have c3_2 := (blk_cell B3.out 2).trans rfl; have c3_3 := (blk_cell B3.out 3).trans rfl; have c3_4 := (blk_cell B3.out 4).trans rfl; obtain ⟨bad, bA3, bc3, bA4, bc4, eb, bK, bx0, bx1, bx2, bx3, bx4⟩ := kid_cells HF.out.run.below G4.out 2 (by simp) b rfl; injection eb with eb; subst eb; simp only [Nat.zero_mul, Nat.one_mul, Nat.reduceMul, Nat.add_zero, add_zero'] at bx0 bx1 bx2 bx3 bx4; simp only [add_pos _ _ (show (5 : Nat) ≠ 0 by decide), add_pos _ _ (show (10 : Nat) ≠ 0 by decide)] at bx0 bx1 bx2 bx3 bx4; have HbK := Aside0.mk bK; clear bK)
     have hcb := vs_some ihb hvb _ HbK.out
     refine (hcb _ HF.out).mono ?_
     rintro e w8 ⟨rfl, hb⟩
     replace HB := Aside0.mk (below_step HB.out hb)
     replace B4 := Aside0.mk (below_blk B4.out hb)
     replace HF := Aside0.mk (HF.out.below' hb)
     clear hb
     clear hcb
     clear c3_0 c3_1 c3_2 c3_3 c3_4
     clear bx0 bx1 bx2 bx3 bx4
     clear dg14_0 dg14_1
     go_wp2_with ((with_reducible refine gate_store (t := 91) (p := 4) rfl ?_); refine store_whole rfl rfl 91 _ _ rfl g4 _ 91 rfl B4.out _ rfl rfl rfl (by simp [Value.oneCell']) ?_; intro w6 hb6 hg6; replace HB := Aside0.mk (below_res HB.out hg6 HL.out); replace B4 := Aside0.mk hb6; clear hb6 hg6)
     (try simp only [Exit.inBlock, Exit.then])
     refine bodyPost_ret (results_cell_row rfl _ _ g4 91 _ (0, 0) _ rfl B4.out Tryz.underlying91 rfl (by kernel_rfl)) rfl ?_
     exact ⟨rfl, HB.out⟩
   ·rw [if_neg h0]
    have t0 : (v != 0) = true := by rw [bne, ne_bool h0]; rfl
    clear h0
    cases hva : valE m base f a with
    | none =>
     have HF := Aside0.mk hF; have G4 := Aside0.mk g4
     clear hF g4
     go_enter Tryz.func107, Tryz.ntmps107
     go_upto_region 3 with fail
     have hs := start3 w (.cells #[.int .i64 7, .string nm, .int .i64 nn, .slice A3 xs.length c3, .slice A4 3 c4] 38) (.cells #[.int .i64 0, .bool false] 91) (.cells #[.int .i64 0, .bool false] 91)
     have HL := Aside0.mk (show w.heap.size ≤ w.heap.size + 1 by omega)
     generalize ((w.alloc (.cells #[.int .i64 7, .string nm, .int .i64 nn, .slice A3 xs.length c3, .slice A4 3 c4] 38)).alloc (.cells #[.int .i64 0, .bool false] 91)).alloc (.cells #[.int .i64 0, .bool false] 91) = w5 at hs ⊢
     obtain ⟨b3, b4, b5, hb⟩ := hs
     replace HF := Aside0.mk (HF.out.below' hb)
     have HB := Aside0.mk hb
     clear hb
     generalize w.heap.size + 1 + 1 = g5 at b5 ⊢
     generalize w.heap.size + 1 = g4 at b4 HL ⊢
     have hq : ∃ g3, w.heap.size = g3 := ⟨_, rfl⟩
     obtain ⟨g3, hq⟩ := hq
     rw [hq] at b3 ⊢
     clear hq
     have B3 := Aside0.mk b3; have B4 := Aside0.mk b4; have B5 := Aside0.mk b5; clear b3 b4 b5
     have c3_0 := (blk_cell B3.out 0).trans rfl
     have c3_1 := (blk_cell B3.out 1).trans rfl
     have c3_2 := (blk_cell B3.out 2).trans rfl
     have c3_3 := (blk_cell B3.out 3).trans rfl
     have c3_4 := (blk_cell B3.out 4).trans rfl
     obtain ⟨kad, kA3, kc3, kA4, kc4, ek, kK, kx0, kx1, kx2, kx3, kx4⟩ := kid_cells HF.out.run.below G4.out 0 (by simp) k rfl
     obtain rfl := ek
     simp only [Nat.zero_mul, Nat.one_mul, Nat.reduceMul, Nat.add_zero, add_zero'] at kx0 kx1 kx2 kx3 kx4
     have HkK := Aside0.mk kK; clear kK
     have hck := vs_some ihk hvk _ HkK.out
     go_wp2_with fail
     refine (hck _ HF.out).mono ?_
     rintro e w6 ⟨rfl, hb⟩
     replace HB := Aside0.mk (below_step HB.out hb)
     replace B3 := Aside0.mk (below_blk B3.out hb)
     replace B4 := Aside0.mk (below_blk B4.out hb)
     replace B5 := Aside0.mk (below_blk B5.out hb)
     replace HF := Aside0.mk (HF.out.below' hb)
     clear hb
     clear hck
     clear c3_0 c3_1 c3_2 c3_3 c3_4
     clear kx0 kx1 kx2 kx3 kx4
     go_wp2_with ((with_reducible refine gate_store (t := 91) (p := 14) rfl ?_); refine store_whole rfl rfl 91 _ _ rfl w6.heap.size _ 91 rfl (blk_new _ _) _ rfl rfl rfl (by simp [Value.oneCell']) ?_; intro w2 hb2 hg2; replace B3 := Aside0.mk (blk_as B3.out hg2); replace B4 := Aside0.mk (blk_as B4.out hg2); replace B5 := Aside0.mk (blk_as B5.out hg2); replace HF := Aside0.mk (HF.out.below' (below_as (Below.refl _ _) hg2)); replace HB := Aside0.mk (below_as HB.out hg2); obtain ⟨g14, hq_⟩ : ∃ g_, g_ = w6.heap.size := ⟨_, rfl⟩; rw [← hq_] at hb2; rw [← hq_]; have Bg14 := Aside0.mk hb2; clear hb2 hg2 hq_; have dg14_0 := (blk_cell Bg14.out 0).trans rfl; have dg14_1 := (blk_cell Bg14.out 1).trans rfl; have c3_0 := (blk_cell B3.out 0).trans rfl; have c3_1 := (blk_cell B3.out 1).trans rfl; have c3_2 := (blk_cell B3.out 2).trans rfl; have c3_3 := (blk_cell B3.out 3).trans rfl; have c3_4 := (blk_cell B3.out 4).trans rfl; obtain ⟨aad, aA3, ac3, aA4, ac4, ea, aK, ax0, ax1, ax2, ax3, ax4⟩ := kid_cells HF.out.run.below G4.out 1 (by simp) a rfl; injection ea with ea; subst ea; simp only [Nat.zero_mul, Nat.one_mul, Nat.reduceMul, Nat.add_zero, add_zero'] at ax0 ax1 ax2 ax3 ax4; simp only [add_pos _ _ (show (5 : Nat) ≠ 0 by decide), add_pos _ _ (show (10 : Nat) ≠ 0 by decide)] at ax0 ax1 ax2 ax3 ax4; have HaK := Aside0.mk aK; clear aK)
     have hca := vs_none iha hva _ HaK.out
     refine (hca _ HF.out).mono ?_
     rintro e w8 ⟨rfl, hb⟩
     replace HB := Aside0.mk (below_step HB.out hb)
     replace B4 := Aside0.mk (below_blk B4.out hb)
     replace HF := Aside0.mk (HF.out.below' hb)
     clear hb
     clear hca
     clear c3_0 c3_1 c3_2 c3_3 c3_4
     clear ax0 ax1 ax2 ax3 ax4
     clear dg14_0 dg14_1
     go_wp2_with fail
     exact ⟨rfl, rfl, HB.out⟩
    | some cu =>
     obtain ⟨u, q⟩ := cu
     have HF := Aside0.mk hF; have G4 := Aside0.mk g4
     clear hF g4
     go_enter Tryz.func107, Tryz.ntmps107
     go_upto_region 3 with fail
     have hs := start3 w (.cells #[.int .i64 7, .string nm, .int .i64 nn, .slice A3 xs.length c3, .slice A4 3 c4] 38) (.cells #[.int .i64 0, .bool false] 91) (.cells #[.int .i64 0, .bool false] 91)
     have HL := Aside0.mk (show w.heap.size ≤ w.heap.size + 1 by omega)
     generalize ((w.alloc (.cells #[.int .i64 7, .string nm, .int .i64 nn, .slice A3 xs.length c3, .slice A4 3 c4] 38)).alloc (.cells #[.int .i64 0, .bool false] 91)).alloc (.cells #[.int .i64 0, .bool false] 91) = w5 at hs ⊢
     obtain ⟨b3, b4, b5, hb⟩ := hs
     replace HF := Aside0.mk (HF.out.below' hb)
     have HB := Aside0.mk hb
     clear hb
     generalize w.heap.size + 1 + 1 = g5 at b5 ⊢
     generalize w.heap.size + 1 = g4 at b4 HL ⊢
     have hq : ∃ g3, w.heap.size = g3 := ⟨_, rfl⟩
     obtain ⟨g3, hq⟩ := hq
     rw [hq] at b3 ⊢
     clear hq
     have B3 := Aside0.mk b3; have B4 := Aside0.mk b4; have B5 := Aside0.mk b5; clear b3 b4 b5
     have c3_0 := (blk_cell B3.out 0).trans rfl
     have c3_1 := (blk_cell B3.out 1).trans rfl
     have c3_2 := (blk_cell B3.out 2).trans rfl
     have c3_3 := (blk_cell B3.out 3).trans rfl
     have c3_4 := (blk_cell B3.out 4).trans rfl
     obtain ⟨kad, kA3, kc3, kA4, kc4, ek, kK, kx0, kx1, kx2, kx3, kx4⟩ := kid_cells HF.out.run.below G4.out 0 (by simp) k rfl
     obtain rfl := ek
     simp only [Nat.zero_mul, Nat.one_mul, Nat.reduceMul, Nat.add_zero, add_zero'] at kx0 kx1 kx2 kx3 kx4
     have HkK := Aside0.mk kK; clear kK
     have hck := vs_some ihk hvk _ HkK.out
     go_wp2_with fail
     refine (hck _ HF.out).mono ?_
     rintro e w6 ⟨rfl, hb⟩
     replace HB := Aside0.mk (below_step HB.out hb)
     replace B3 := Aside0.mk (below_blk B3.out hb)
     replace B4 := Aside0.mk (below_blk B4.out hb)
     replace B5 := Aside0.mk (below_blk B5.out hb)
     replace HF := Aside0.mk (HF.out.below' hb)
     clear hb
     clear hck
     clear c3_0 c3_1 c3_2 c3_3 c3_4
     clear kx0 kx1 kx2 kx3 kx4
     go_wp2_with ((with_reducible refine gate_store (t := 91) (p := 14) rfl ?_); refine store_whole rfl rfl 91 _ _ rfl w6.heap.size _ 91 rfl (blk_new _ _) _ rfl rfl rfl (by simp [Value.oneCell']) ?_; intro w2 hb2 hg2; replace B3 := Aside0.mk (blk_as B3.out hg2); replace B4 := Aside0.mk (blk_as B4.out hg2); replace B5 := Aside0.mk (blk_as B5.out hg2); replace HF := Aside0.mk (HF.out.below' (below_as (Below.refl _ _) hg2)); replace HB := Aside0.mk (below_as HB.out hg2); obtain ⟨g14, hq_⟩ : ∃ g_, g_ = w6.heap.size := ⟨_, rfl⟩; rw [← hq_] at hb2; rw [← hq_]; have Bg14 := Aside0.mk hb2; clear hb2 hg2 hq_; have dg14_0 := (blk_cell Bg14.out 0).trans rfl; have dg14_1 := (blk_cell Bg14.out 1).trans rfl; have c3_0 := (blk_cell B3.out 0).trans rfl; have c3_1 := (blk_cell B3.out 1).trans rfl; have c3_2 := (blk_cell B3.out 2).trans rfl; have c3_3 := (blk_cell B3.out 3).trans rfl; have c3_4 := (blk_cell B3.out 4).trans rfl; obtain ⟨aad, aA3, ac3, aA4, ac4, ea, aK, ax0, ax1, ax2, ax3, ax4⟩ := kid_cells HF.out.run.below G4.out 1 (by simp) a rfl; injection ea with ea; subst ea; simp only [Nat.zero_mul, Nat.one_mul, Nat.reduceMul, Nat.add_zero, add_zero'] at ax0 ax1 ax2 ax3 ax4; simp only [add_pos _ _ (show (5 : Nat) ≠ 0 by decide), add_pos _ _ (show (10 : Nat) ≠ 0 by decide)] at ax0 ax1 ax2 ax3 ax4; have HaK := Aside0.mk aK; clear aK)
     have hca := vs_some iha hva _ HaK.out
     refine (hca _ HF.out).mono ?_
     rintro e w8 ⟨rfl, hb⟩
     replace HB := Aside0.mk (below_step HB.out hb)
     replace B4 := Aside0.mk (below_blk B4.out hb)
     replace HF := Aside0.mk (HF.out.below' hb)
     clear hb
     clear hca
     clear c3_0 c3_1 c3_2 c3_3 c3_4
     clear ax0 ax1 ax2 ax3 ax4
     clear dg14_0 dg14_1
     go_wp2_with ((with_reducible refine gate_store (t := 91) (p := 4) rfl ?_); refine store_whole rfl rfl 91 _ _ rfl g4 _ 91 rfl B4.out _ rfl rfl rfl (by simp [Value.oneCell']) ?_; intro w6 hb6 hg6; replace HB := Aside0.mk (below_res HB.out hg6 HL.out); replace B4 := Aside0.mk hb6; clear hb6 hg6)
     (try simp only [Exit.inBlock, Exit.then])
     refine bodyPost_ret (results_cell_row rfl _ _ g4 91 _ (0, 0) _ rfl B4.out Tryz.underlying91 rfl (by kernel_rfl)) rfl ?_
     exact ⟨rfl, HB.out⟩
theorem value_calls : ∀ (x : S38), ValSays w0 g ma A c l N m tr cn gf base mp f x
 | ⟨op, nm, nn, xs, []⟩ => by
  by_cases h1 : op = 1
  ·subst h1; exact value_int nn nm xs
  by_cases h4 : op = 4
  ·subst h4; exact value_var nn nm xs
  by_cases h16 : op = 16
  ·subst h16; exact value_mem nn nm xs
  exact value_other0 nn nm xs op h1 h4 h16
 | ⟨op, nm, nn, xs, [a]⟩ => by
  by_cases h : op = 5
  ·subst h; exact value_un nn nm xs a (value_calls a)
  ·exact value_other1 nn nm xs op h a
 | ⟨op, nm, nn, xs, [a, b]⟩ => by
  by_cases h : op = 6
  ·subst h; exact value_bin nn nm xs a b (value_calls a) (value_calls b)
  ·exact value_other2 nn nm xs op h a b
 | ⟨op, nm, nn, xs, [k, a, b]⟩ => by
  by_cases h : op = 7
  ·subst h; exact value_if nn nm xs k a b (value_calls k) (value_calls a) (value_calls b)
  ·exact value_other3 nn nm xs op h k a b
 | ⟨op, nm, nn, xs, a :: b :: k :: d :: r⟩ => value_many nn nm xs op (a :: b :: k :: d :: r) (by simp only [List.length_cons]; omega)
termination_by x => SizeOf.sizeOf x
decreasing_by all_goals (simp only [S38.mk.sizeOf_spec, List.cons.sizeOf_spec]; omega)
end
end Go.Proofs.YticndoihkfbpoaaGreatDoor
