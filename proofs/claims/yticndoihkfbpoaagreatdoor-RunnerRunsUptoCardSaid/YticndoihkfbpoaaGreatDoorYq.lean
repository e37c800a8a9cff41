/- The law's lives: a sum's first instants; and RunnerNil. -/
import Derived.Test.YticndoihkfbpoaaGreatDoorYn
namespace Go.Proofs.YticndoihkfbpoaaGreatDoor
open Go Go.RowKit Go.Lib Go.Proofs.YticndoihkfbpoaaGreatDoorW.PrintWords Go.Proofs.YticndoihkfbpoaaGreatDoor.PScope
set_option maxRecDepth 100000
set_option linter.unusedSimpArgs false
set_option linter.unusedVariables false
attribute [local irreducible] wpStill
theorem lit_row {W : World} {b : Nat} {x : Int} {T : TypeId} (h : W.heap[b]? = some (.cells #[.int .i64 x] T (0, 0))) : (Kd.int .i64).C W (some ⟨b, 0, none⟩) 1 [x] := by
 refine ⟨rfl, by decide, fun _ => ⟨⟨b, 0, none⟩, rfl, fun j p hj => ?_⟩⟩
 cases j with
 | succ j => simp at hj
 | zero =>
  simp at hj
  subst hj
  refine ⟨[.int .i64 x], rfl, rfl, fun i u hu => ?_⟩
  cases i with
  | succ i => simp at hu
  | zero =>
   simp at hu
   subst hu
   exact (blk_cell h 0).trans rfl
theorem step_lit {w0 w : World} {g : Nat} {ma : Addr} {A : Option Addr} {c : Nat} {l : List FF} {N : Nat} {m : List Cl} {tr : Bool} {cn : Int} (hok : flatOk l = true) (hsm : FlatSmall l) (hC : kFF.C w0 A l.length l) (hfw : ∀ f ∈ l, f.params.length ≤ 8796093022208) (hfr : ∀ f ∈ l, f.results.length ≤ 8796093022208)
  (x y er : Int) (r : StepR) (hr : stepR l N m tr cn [x] = r) (hy : r.2.2.2 = ([y], er)) (T : TypeId) (h : RAt w0 w g ma A c l N m tr cn) :
  Calls Tryz.prog 25 #[.pointer (some ⟨g, 0, none⟩), .slice (some ⟨w.heap.size, 0, none⟩) 1 1] (w.alloc (.cells #[.int .i64 x] T (0, 0))) fun e w' =>
   (∃ ad cB, e = .returned (.tuple #[.slice (some ad) 1 cB, .int .i64 er]) ∧ w'.cell? ad = some (.int .i64 y) ∧ w.heap.size ≤ ad.block) ∧ RAt w0 w' g ma A c l N r.1 r.2.1 r.2.2.1 ∧ Turned (fun b => b = g ∨ b = ma.block) w w' := by
 have hb := below_alloc (Below.refl w.heap.size w) (.cells #[.int .i64 x] T (0, 0))
 have h1 := blk_lt h.blk
 have h2 := blk_lt h.mem.2
 have hn := blk_new w (.cells #[.int .i64 x] T (0, 0))
 refine (stepm_calls hok hsm hC hfw hfr [x] (some ⟨w.heap.size, 0, none⟩) 1 (fun W hW => lit_row (hW.blk hn (by rintro (e | e) <;> omega))) (h.below' hb)).mono ?_
 rintro e w' ⟨⟨B, cB, rfl, hCB, hf⟩, hR, hT⟩
 rw [hr] at hCB hR ⊢
 rw [hy] at hCB ⊢
 obtain ⟨ad, cs, rfl, _, hk, hcc⟩ := Kd.C_get hCB (0 : Int) 0 (by decide) (by show (0 : Int) < (1 : Int); decide)
 obtain rfl := hk
 refine ⟨⟨ad, cB, rfl, ?_, ?_⟩, hR, (Turned.of_below hb).trans hT⟩
 ·have := hcc 0 _ rfl
  simpa [Addr.add] using this
 ·exact Nat.le_trans hb.size (hf ad rfl)
theorem cell_turned {S : Nat → Prop} {w w' : World} {a : Addr} {v : Value} (h : w.cell? a = some v) (ht : Turned S w w') (hs : ¬ S a.block) : w'.cell? a = some v := (World.cell?_of_block (ht.block a.block (World.block_lt_of_cell? w _ h) hs)).trans h
theorem sum_few : (∀ f ∈ sumL, f.params.length ≤ 8796093022208) ∧ ∀ f ∈ sumL, f.results.length ≤ 8796093022208 := by
 have h := sum_params
 rw [List.all_eq_true] at h
 refine ⟨fun f hf => ?_, fun f hf => ?_⟩ <;> have := h f hf <;> simp only [Bool.and_eq_true, decide_eq_true_eq] at this <;> omega
set_option maxHeartbeats 4000000 in
theorem rlives_calls (w : World) (hL : LaidR w) : Calls Tryz.prog 20 #[] w fun e w' => e = .returned (.bool true) ∧ Below w.heap.size w w' := by
 have HL := Aside0.mk hL
 clear hL
 go_enter Tryz.func20, Tryz.ntmps20
 go_wp2_with fail
 refine (parse_sum_calls _ (by kernel_rfl) _ HL.out).mono ?_
 rintro e w1 ⟨A, c, rfl, hb, hC⟩
 have HB := Aside0.mk hb
 have HC := Aside0.mk hC
 clear hb hC HL
 go_wp2_with fail
 have HC2 := Aside0.mk (Kd.C_alloc (Kd.C_alloc HC.out (.cells #[.slice A sumL.length c] 24 (0, 0))) (.cells #[.int .i64 0, .int .i64 0, .int .i64 0] 61 (0, 0)))
 have HB2 := Aside0.mk (below_alloc (below_alloc HB.out (.cells #[.slice A sumL.length c] 24 (0, 0))) (.cells #[.int .i64 0, .int .i64 0, .int .i64 0] 61 (0, 0)))
 clear HC HB
 generalize (w1.alloc (.cells #[.slice A sumL.length c] 24 (0, 0))).alloc (.cells #[.int .i64 0, .int .i64 0, .int .i64 0] 61 (0, 0)) = w2 at HC2 HB2 ⊢
 generalize w1.heap.size = b1
 refine (new_calls sumL sum_small w2 A c HC2.out).mono ?_
 intro e w3 hp
 unfold NewPost at hp
 rcases hp with ⟨hne, _⟩ | ⟨_, g, ma, rfl, hR⟩
 ·exact absurd sum_new hne
 rw [sum_N] at hR
 have H3 := Aside0.mk (show RAt w2 w3 g ma A c sumL 2 sum0 false 0 from hR)
 clear hR
 go_wp2_with fail
 refine (rcells_calls H3.out).mono ?_
 rintro e w4 ⟨rfl, rfl⟩
 go_wp2_with fail
 refine (rdefined_calls H3.out).mono ?_
 rintro e w5 ⟨rfl, hb⟩
 rw [sum_d0]
 have H5 := Aside0.mk (H3.out.below' hb)
 clear hb H3
 have HFEW := Aside0.mk sum_few
 have HSM := Aside0.mk sum_small
 have HB5 := Aside0.mk (HB2.out.trans (H5.out.below.mono HB2.out.size))
 go_wp2_with fail
 refine (step_lit sum_ok HSM.out HC2.out HFEW.out.1 HFEW.out.2 1 0 0 sum1 rfl sum_1 _ H5.out).mono ?_
 rintro e w6 ⟨⟨a1, c1, rfl, ha1, hg1⟩, hR6, ht6⟩
 have H6 := Aside0.mk hR6
 have LT := Aside0.mk (show g < w5.heap.size ∧ ma.block < w5.heap.size from ⟨blk_lt H5.out.blk, blk_lt H5.out.mem.2⟩)
 have HA1 := Aside0.mk ha1
 have N1 := Aside0.mk (show ¬ (a1.block = g ∨ a1.block = ma.block) by have := LT.out; omega)
 have S6 := Aside0.mk ht6.size
 clear ha1 hg1 hR6 ht6
 go_wp2_with fail
 refine (step_lit sum_ok HSM.out HC2.out HFEW.out.1 HFEW.out.2 2 1 0 sum2 rfl sum_2 _ H6.out).mono ?_
 rintro e w7 ⟨⟨a2, c2, rfl, ha2, hg2⟩, hR7, ht7⟩
 have H7 := Aside0.mk hR7
 have HA2 := Aside0.mk ha2
 replace HA1 := Aside0.mk (cell_turned HA1.out ht7 N1.out)
 have N2 := Aside0.mk (show ¬ (a2.block = g ∨ a2.block = ma.block) by have := LT.out; have := S6.out; omega)
 have S7 := Aside0.mk ht7.size
 clear ha2 hg2 hR7 ht7
 go_wp2_with fail
 refine (step_lit sum_ok HSM.out HC2.out HFEW.out.1 HFEW.out.2 3 3 0 sum3 rfl sum_3 _ H7.out).mono ?_
 rintro e w8 ⟨⟨a3, c3, rfl, ha3, hg3⟩, hR8, ht8⟩
 have H8 := Aside0.mk hR8
 replace HA1 := Aside0.mk (cell_turned HA1.out ht8 N1.out)
 replace HA2 := Aside0.mk (cell_turned HA2.out ht8 N2.out)
 have x1 := HA1.out
 have x2 := HA2.out
 have x3 := ha3
 clear ha3 hg3 hR8 ht8 HA1 HA2
 go_wp2_with fail
 refine (rcount_calls H8.out).mono ?_
 rintro e w9 ⟨rfl, rfl⟩
 rw [sum_c3]
 go_wp2_with fail
 refine (rdefined_calls H8.out).mono ?_
 rintro e w10 ⟨rfl, hb⟩
 rw [sum_d3]
 have HBE := Aside0.mk (below_step (HB2.out.trans (H8.out.below.mono HB2.out.size)) hb)
 clear hb
 go_wp2_with fail
 go_ret
 exact ⟨rfl, HBE.out⟩
theorem newOk {l : List FF} (h : newErr l = 0) : flatOk l = true := by
 unfold newErr at h
 cases hf : flatOk l with
 | true => rfl
 | false => rw [hf] at h; simp at h
theorem RAt.keeps {w0 w W : World} {g : Nat} {ma : Addr} {A : Option Addr} {c : Nat} {l : List FF} {N : Nat} {m : List Cl} {tr : Bool} {cn : Int} (h : RAt w0 w g ma A c l N m tr cn) (ht : Turned (fun b => b = g ∨ b = ma.block) w W) : Below w0.heap.size w0 W :=
 ht.below h.below h.below.size (fun k hk => hk.elim (fun e => e ▸ h.hg) (fun e => e ▸ h.hb))
set_option maxHeartbeats 2000000 in
theorem same_calls (xs : List Int) (A B : Option Addr) (cA cB : Nat) (w : World) (hA : (Kd.int .i64).C w A xs.length xs) (hB : (Kd.int .i64).C w B xs.length xs) :
  Calls Tryz.prog 27 #[.slice A xs.length cA, .slice B xs.length cB] w fun e w' => e = .returned (.bool true) ∧ Below w.heap.size w w' := by
 have HA := Aside0.mk hA
 have HBB := Aside0.mk hB
 have hm : xs.length ≤ 9223372036854775807 := hA.2.1
 clear hA hB
 have dl : ((xs.length : Int) != (xs.length : Int)) = false := by simp
 go_enter Tryz.func27, Tryz.ntmps27
 go_wp2_with fail
 go_loopg [5] xs.length (fun gg s5 wr => ∃ kk : Nat, kk ≤ xs.length ∧ xs.length - kk ≤ gg ∧ s5 = .int .i64 kk ∧ Aside0 (Below w.heap.size w wr))
 case atStart => exact ⟨0, Nat.zero_le _, by omega, rfl, ⟨Below.refl _ _⟩⟩
 case round =>
  obtain ⟨kk, hkk, hgk, rfl, HB⟩ := hrel
  by_cases hlt : kk < xs.length
  ·have hltz : (kk : Int) < (xs.length : Int) := by omega
   obtain ⟨a, acs, rfl, _, aK, acc⟩ := Kd.C_get HA.out (0 : Int) (kk : Int) (by omega) (by omega)
   obtain ⟨b, bcs, rfl, _, bK, bcc⟩ := Kd.C_get HBB.out (0 : Int) (kk : Int) (by omega) (by omega)
   obtain rfl := aK
   obtain rfl := bK
   have x0 := (HB.out.cell (World.block_lt_of_cell? w _ (acc 0 _ rfl))).trans (acc 0 _ rfl)
   have y0 := (HB.out.cell (World.block_lt_of_cell? w _ (bcc 0 _ rfl))).trans (bcc 0 _ rfl)
   simp only [show (Kd.int .i64).sz = 1 from rfl, Nat.mul_one, Nat.add_zero, Int.toNat_natCast] at x0 y0
   clear acc bcc
   generalize xs.getD kk (0 : Int) = n at x0 y0
   have dn : (n != n) = false := by simp
   have HB2 := Aside0.mk (pw_below_drewN HB.out)
   go_wp2_with fail
   go_quiet (fail)
   go_wp2_with fail
   go_roundg (xs.length - (kk + 1))
   case measure => omega
   case rel => exact ⟨kk + 1, by omega, by omega, by go_num, ⟨HB2.out _⟩⟩
  ·have hltz : ¬ (kk : Int) < (xs.length : Int) := by omega
   obtain rfl : kk = xs.length := by omega
   go_wp2_with fail
   go_ret
   exact ⟨rfl, HB.out⟩
theorem ints_block {W w' : World} {A : Option Addr} {xs : List Int} (h : (Kd.int .i64).C W A xs.length xs) (hb : ∀ ad, A = some ad → xs ≠ [] → w'.heap[ad.block]? = W.heap[ad.block]?) : (Kd.int .i64).C w' A xs.length xs := by
 obtain ⟨h1, h2, h3⟩ := h
 refine ⟨h1, h2, fun hne => ?_⟩
 obtain ⟨ad, ha, hh⟩ := h3 hne
 refine ⟨ad, ha, fun j p hj => ?_⟩
 obtain ⟨cs, hl, hk, hcc⟩ := hh j p hj
 refine ⟨cs, hl, hk, fun i u hu => ?_⟩
 have hx : xs ≠ [] := by rintro rfl; simp at hj
 have hq : (ad.add (j * (Kd.int .i64).sz + i)).block = ad.block := by unfold Addr.add; split <;> rfl
 exact (World.cell?_of_block (by rw [hq]; exact hb ad ha hx)).trans (hcc i u hu)
theorem intsLt {W : World} {A : Option Addr} {xs : List Int} (h : (Kd.int .i64).C W A xs.length xs) (ad : Addr) (e : A = some ad) (hne : xs ≠ []) : ad.block < W.heap.size := by
 have hl : 0 < xs.length := List.length_pos_iff.2 hne
 obtain ⟨ad', cs, e1, _, hk, hcc⟩ := Kd.C_get h (0 : Int) 0 (by omega) (by omega)
 obtain rfl := hk
 rw [e] at e1
 injection e1 with e1
 subst e1
 have hq : (ad.add ((0 : Int).toNat * (Kd.int .i64).sz + 0)).block = ad.block := by unfold Addr.add; split <;> rfl
 have := World.block_lt_of_cell? W _ (hcc 0 _ rfl)
 omega
def DV (g : Nat) (ma : Addr) (gf bv : Nat) (w : World) (b : Nat) : Prop := (b = g ∨ b = ma.block) ∨ SV w gf bv b
section
variable {w0 w w' w1 w2 : World} {g : Nat} {ma : Addr} {A : Option Addr} {c : Nat} {l : List FF} {N : Nat} {m : List Cl} {tr : Bool} {cn : Int} {gf : Nat} {base : Int} {bv q : Nat} {f : Vars} {bad : Bool}
theorem DV.trans (h : Turned (DV g ma gf bv w) w w1) (k : Turned (DV g ma gf bv w1) w1 w2) : Turned (DV g ma gf bv w) w w2 :=
 ⟨k.os.trans h.os, k.tape.trans h.tape, k.output.trans h.output, Nat.le_trans h.size k.size, fun i hi hs => by
  have e := h.block i hi hs
  refine (k.block i (Nat.lt_of_lt_of_le hi h.size) (fun hk => hs ?_)).trans e
  rcases hk with hk | hk | ⟨hk, cells, hc⟩
  ·exact .inl hk
  ·exact .inr (.inl hk)
  ·exact .inr (.inr ⟨hk, cells, e.symm.trans hc⟩)⟩
theorem DV_run (h : Turned (fun b => b = g ∨ b = ma.block) w w') : Turned (DV g ma gf bv w) w w' := h.mono (fun k _ hk => .inl hk)
theorem DV_mark (h : Turned (fun b => b = gf) w w') : Turned (DV g ma gf bv w) w w' := h.mono (fun k _ hk => .inr (.inl hk))
theorem DV_set (h : Turned (SV w gf bv) w w') : Turned (DV g ma gf bv w) w w' := h.mono (fun k _ hk => .inr hk)
theorem DV_below (h : Below w.heap.size w w') : Turned (DV g ma gf bv w) w w' := Turned.of_below h
theorem DV_blk {k : Nat} {cs : Array Value} {t : TypeId} (h : Turned (DV g ma gf bv w) w w') (hb : w.heap[k]? = some (.cells cs t (0, 0))) (hg : k ≠ g) (hm : k ≠ ma.block) (hf : k ≠ gf) (ht : t ≠ 172) : w'.heap[k]? = some (.cells cs t (0, 0)) :=
 h.blk hb (by
  rintro ((e | e) | e | ⟨_, e⟩)
  ·exact hg e
  ·exact hm e
  ·exact hf e
  ·exact IsSl.not hb ht e)
theorem DV_out (hb : Below w.heap.size w w1) (h : Turned (DV g ma gf bv w1) w1 w') (h1 : w.heap.size ≤ gf) (h2 : w.heap.size ≤ bv) : Turned (fun b => b = g ∨ b = ma.block) w w' :=
 (Turned.of_below hb).trans_fresh h (by
  rintro k (e | e | ⟨e, _⟩)
  ·exact .inl e
  ·exact .inr (by omega)
  ·exact .inr (by omega))
theorem MarkT.same (h : FAtR w0 w g ma A c l N m tr cn gf base bv q f bad) (hm : MarkT g gf base bad bad w w') : Below w.heap.size w w' := by
 obtain ⟨v, vs, h1, _⟩ := h.frm
 have ht : Turned (fun _ => False) w w' := ⟨hm.t.os, hm.t.tape, hm.t.output, hm.t.size, fun i hi _ => by
  by_cases e : i = gf
  ·rw [e, hm.k v h1, h1]
  ·exact hm.t.block i hi e⟩
 exact ht.below (Below.refl _ _) (Nat.le_refl _) (fun k hk => hk.elim)
theorem rv_ok {x : S38} (hx : ExIn x) (hF : FAtR w0 w g ma A c l N m tr cn gf base bv q f false) {cs : List Value} (hK : kE.K w0 x cs) {v : Int} {o : Bool} (hv : valE m base f x = some (v, o)) :
  Calls Tryz.prog 113 #[.pointer (some ⟨gf, 0, none⟩), .agg cs.toArray] w fun e w' => e = .returned (.agg #[.bool o, .int .i64 v]) ∧ Below w.heap.size w w' := by
 refine (rvalue_calls hx w cs false hF hK).mono ?_
 rintro e w' ⟨rfl, hm⟩
 have hT : valT m base f x = false := by unfold valT; rw [hv]; rfl
 have hN : valN m base f x = (v, o) := by unfold valN; rw [hv]; rfl
 rw [hT] at hm
 exact ⟨by rw [hN]; rfl, MarkT.same hF hm⟩
theorem rv_trap {x : S38} (hx : ExIn x) (hF : FAtR w0 w g ma A c l N m tr cn gf base bv q f false) {cs : List Value} (hK : kE.K w0 x cs) (hv : valE m base f x = none) :
  Calls Tryz.prog 113 #[.pointer (some ⟨gf, 0, none⟩), .agg cs.toArray] w fun e w' => e = .returned (.agg #[.bool false, .int .i64 0]) ∧ FAtR w0 w' g ma A c l N m tr cn gf base bv q f true ∧ Turned (fun b => b = gf) w w' := by
 refine (rvalue_calls hx w cs false hF hK).mono ?_
 rintro e w' ⟨rfl, hm⟩
 have hT : valT m base f x = true := by unfold valT; rw [hv]; rfl
 have hN : valN m base f x = nilC := by unfold valN; rw [hv]; rfl
 rw [hT] at hm
 exact ⟨by rw [hN]; rfl, hF.marked hm, hm.t⟩
theorem FAtR.count (h : FAtR w0 w g ma A c l N m tr cn gf base bv q f bad) (v : Int) : FAtR w0 (w.setCell ⟨g, 3, none⟩ (.int .i64 v)) g ma A c l N m tr v gf base bv q f bad ∧ Turned (fun b => b = g ∨ b = ma.block) w (w.setCell ⟨g, 3, none⟩ (.int .i64 v)) := by
 have ht := (Turned.refl (fun b => b = g ∨ b = ma.block) w).set (p := ⟨g, 3, none⟩) (.inl rfl) (.int .i64 v)
 exact ⟨h.turned (h.run.countS v) h.inm ht, ht⟩
theorem FAtR.keepC (h : FAtR w0 w g ma A c l N m tr cn gf base bv q f bad) (i : Nat) (c0 : Cl) (hc : InR c0.1) : FAtR w0 ((w.setCell (ma.add (i * 2)) (.bool c0.2)).setCell ⟨(ma.add (i * 2)).block, (ma.add (i * 2)).off + 1, none⟩ (.int .i64 c0.1)) g ma A c l N (m.set i c0) tr cn gf base bv q f bad ∧
  Turned (fun b => b = g ∨ b = ma.block) w ((w.setCell (ma.add (i * 2)) (.bool c0.2)).setCell ⟨(ma.add (i * 2)).block, (ma.add (i * 2)).off + 1, none⟩ (.int .i64 c0.1)) := by
 have ht := h.run.mem.turned2 (Turned.refl (fun b => b = g ∨ b = ma.block) w) (.inr rfl) (i * 2) (.bool c0.2) (.int .i64 c0.1)
 exact ⟨h.turned (h.run.keep i c0) (h.inm.set i hc) ht, ht⟩
end
def RDoPost (w0 : World) (g : Nat) (ma : Addr) (A : Option Addr) (c : Nat) (l : List FF) (N : Nat) (tr : Bool) (gf : Nat) (base : Int) (bv q : Nat) (r : List Cl × Int × Option Vars) (w : World) (e : Ending) (w' : World) : Prop :=
 (match r.2.2 with | some f1 => e = .returned (.bool true) ∧ FAtR w0 w' g ma A c l N r.1 tr r.2.1 gf base bv q f1 false | none => e = .returned (.bool false) ∧ RAtR w0 w' g ma A c l N r.1 tr r.2.1 ∧ MemIn r.1) ∧ Turned (DV g ma gf bv w) w w'
def RInPost (w0 : World) (g : Nat) (ma : Addr) (A : Option Addr) (c : Nat) (l : List FF) (N : Nat) (tr : Bool) (r : List Cl × Int × Option (List Int)) (w : World) (e : Ending) (w' : World) : Prop :=
 (match r.2.2 with | some xs => ∃ B cB, e = .returned (.tuple #[.slice B xs.length cB, .bool true]) ∧ (Kd.int .i64).C w' B xs.length xs ∧ (∀ ad, B = some ad → w.heap.size ≤ ad.block ∧ ¬ IsSl w' ad.block) ∧ (∀ x ∈ xs, InR x) | none => e = .returned (.tuple #[.slice none 0 0, .bool false])) ∧ RAtR w0 w' g ma A c l N r.1 tr r.2.1 ∧ MemIn r.1 ∧ Turned (fun b => b = g ∨ b = ma.block) w w'
def adjV (N : Nat) (base : Int) : Int := if base < 0 ∨ base > (N : Int) then (N : Int) else base
theorem adj_add {N : Nat} {base pos : Int} (h0 : 0 ≤ base) (h1 : base ≤ (N : Int)) (h2 : N ≤ 1000) : adjV N (addV base pos) = furV N base pos := by
 by_cases hp : pos < 0
 ·rw [show addV base pos = -1 from if_pos (.inr (.inl hp)), show furV N base pos = (N : Int) from if_pos (.inl hp)]
  exact if_pos (.inl (by decide))
 ·by_cases hq : pos > 2000
  ·rw [show addV base pos = -1 from if_pos (.inr (.inr hq)), show furV N base pos = (N : Int) from if_pos (.inr (by omega))]
   exact if_pos (.inl (by decide))
  ·rw [show addV base pos = base + pos from (if_neg (by omega)).trans (by unfold wrap64; omega)]
   by_cases hr : pos > (N : Int) - base
   ·rw [show furV N base pos = (N : Int) from if_pos (.inr hr)]
    exact if_pos (.inr (by omega))
   ·rw [show furV N base pos = base + pos from if_neg (by omega)]
    exact if_neg (by omega)
theorem adj_ok {N : Nat} {base : Int} (h0 : 0 ≤ base) (h1 : base ≤ (N : Int)) : adjV N base = base := if_neg (by omega)
theorem adj_in (N : Nat) (base : Int) : 0 ≤ adjV N base ∧ adjV N base ≤ (N : Int) := by unfold adjV; split <;> omega
theorem addV_reset {l : List FF} {N : Nat} {base pos fn : Int} (h0 : 0 ≤ base) (h1 : base ≤ (N : Int)) (h2 : N ≤ 1000) : (0 ≤ addV base pos ∧ addV base pos ≤ (N : Int) ∧ (l.getD fn.toNat zFF).cells ≤ (N : Int) - addV base pos) ↔ resetOk l N base pos fn := by
 unfold resetOk
 generalize (l.getD fn.toNat zFF).cells = cl
 by_cases hp : pos < 0
 ·rw [show addV base pos = -1 from if_pos (.inr (.inl hp))]
  exact ⟨fun h => absurd h.1 (by decide), fun h => by omega⟩
 ·by_cases hq : pos > 2000
  ·rw [show addV base pos = -1 from if_pos (.inr (.inr hq))]
   exact ⟨fun h => absurd h.1 (by decide), fun h => by omega⟩
  ·rw [show addV base pos = base + pos from (if_neg (by omega)).trans (by unfold wrap64; omega)]
   by_cases hr : pos > (N : Int) - base
   ·exact ⟨fun h => by omega, fun h => by omega⟩
   ·rw [show furV N base pos = base + pos from if_neg (by omega)]
    exact ⟨fun h => by omega, fun h => by omega⟩
theorem addV_fur {N : Nat} {base pos : Int} (h0 : 0 ≤ base) (h1 : base ≤ (N : Int)) (h2 : N ≤ 1000) (hp : 0 ≤ pos) (hq : pos ≤ (N : Int) - base) : addV base pos = furV N base pos := by
 unfold addV furV
 rw [if_neg (by omega), if_neg (by omega)]
 unfold wrap64; omega
def RISays (w0 : World) (g : Nat) (ma : Addr) (A : Option Addr) (c : Nat) (l : List FF) (N : Nat) (tr : Bool) (d : Nat) (I : Inst) : Prop :=
 ∀ (k base : Int) (ins : List Int) (m : List Cl) (cn : Int) (w : World) (B : Option Addr) (cB : Nat), 0 ≤ k → k < (d : Int) → ins.length = (l.getD k.toNat zFF).params.length → RAtR w0 w g ma A c l N m tr cn → MemIn m → (∀ x ∈ ins, InR x) → (Kd.int .i64).C w B ins.length ins →
  Calls Tryz.prog 53 #[.pointer (some ⟨g, 0, none⟩), .int .i64 k, .int .i64 base, .slice B ins.length cB] w (RInPost w0 g ma A c l N tr (I k (adjV N base) ins m cn) w)
def RStepSays (w0 : World) (g : Nat) (ma : Addr) (A : Option Addr) (c : Nat) (l : List FF) (N : Nat) (tr : Bool) (gf : Nat) (base : Int) (bv : Nat) (I : Inst) (d : Nat) : Prop :=
 ∀ (s : FS) (cs : List Value) (f : Vars) (m : List Cl) (cn : Int) (q : Nat) (w : World), s.op = 3 → badS (d : Int) s = false → kFS.K w0 s cs → FAtR w0 w g ma A c l N m tr cn gf base bv q f false → (∀ x ∈ s.args, ExIn x) → q + s.names.length ≤ 4398046511104 →
  Calls Tryz.prog 115 #[.pointer (some ⟨gf, 0, none⟩), .agg cs.toArray] w (RDoPost w0 g ma A c l N tr gf base bv (q + s.names.length) (stepX I l N base s.pos s.fn s.names s.args f m cn) w)
def RDoSays (w0 : World) (g : Nat) (ma : Addr) (A : Option Addr) (c : Nat) (l : List FF) (N : Nat) (tr : Bool) (gf : Nat) (base : Int) (bv : Nat) (I : Inst) (d : Nat) (xs : List FS) : Prop :=
 ∀ (f : Vars) (m : List Cl) (cn : Int) (q : Nat) (w : World) (B : Option Addr) (cB : Nat), badL (d : Int) xs = false → FsIn xs → FAtR w0 w g ma A c l N m tr cn gf base bv q f false → kFS.C w0 B xs.length xs → q + nmL xs ≤ 4398046511104 →
  Calls Tryz.prog 74 #[.pointer (some ⟨gf, 0, none⟩), .slice B xs.length cB] w (RDoPost w0 g ma A c l N tr gf base bv (q + nmL xs) (doL I l N base xs f m cn) w)
section
variable {w0 w w' : World} {g : Nat} {ma : Addr} {A : Option Addr} {c : Nat} {l : List FF} {N : Nat} {tr : Bool} {gf : Nat} {base : Int} {bv q : Nat}
theorem rdo_no {R : List Cl × Int × Option Vars} {m1 : List Cl} {cn1 : Int} (hR : R = (m1, cn1, none)) (hr : RAtR w0 w' g ma A c l N m1 tr cn1) (hm : MemIn m1) (ht : Turned (DV g ma gf bv w) w w') : RDoPost w0 g ma A c l N tr gf base bv q R w (.returned (.bool false)) w' := by
 subst hR
 exact ⟨⟨rfl, hr, hm⟩, ht⟩
theorem rdo_yes {R : List Cl × Int × Option Vars} {m1 : List Cl} {cn1 : Int} {f1 : Vars} {q1 : Nat} (hR : R = (m1, cn1, some f1)) (hf : FAtR w0 w' g ma A c l N m1 tr cn1 gf base bv q1 f1 false) (hq : q1 ≤ q) (ht : Turned (DV g ma gf bv w) w w') : RDoPost w0 g ma A c l N tr gf base bv q R w (.returned (.bool true)) w' := by
 subst hR
 exact ⟨⟨rfl, hf.more hq⟩, ht⟩
end
theorem doA_nil (I : Inst) (l : List FF) (N : Nat) (base v : Int) (f : Vars) (m : List Cl) (cn : Int) : doA I l N base v [] f m cn = (m, cn, some f) := by rw [doA]
theorem doA_cons (I : Inst) (l : List FF) (N : Nat) (base v : Int) (a : Int × List FS) (r : List (Int × List FS)) (f : Vars) (m : List Cl) (cn : Int) : doA I l N base v (a :: r) f m cn = if a.1 = v then doL I l N base a.2 f m cn else doA I l N base v r f m cn := by
 obtain ⟨k, b⟩ := a
 rw [doA, doP]
set_option maxHeartbeats 8000000 in
theorem choose_calls (w0 : World) (g : Nat) (ma : Addr) (A : Option Addr) (c : Nat) (l : List FF) (N : Nat) (tr : Bool) (gf : Nat) (base : Int) (bv : Nat) (I : Inst) (d : Nat) (s : FS) (cs : List Value) (f : Vars) (m : List Cl) (cn : Int) (q : Nat) (w : World) (hbs : badS (d : Int) s = false) (hK : kFS.K w0 s cs) (h : FAtR w0 w g ma A c l N m tr cn gf base bv q f false)
  (hin : ∀ a ∈ s.arms, FsIn a.2) (hq : q + nmA s.arms ≤ 4398046511104) (ih : ∀ a ∈ s.arms, RDoSays w0 g ma A c l N tr gf base bv I d a.2) :
  Calls Tryz.prog 117 #[.pointer (some ⟨gf, 0, none⟩), .agg cs.toArray] w (RDoPost w0 g ma A c l N tr gf base bv (q + nmA s.arms) (if (vget f s.name).2 then doA I l N base (vget f s.name).1 s.arms f m cn else (m, cn, none)) w) := by
 obtain ⟨sA4, sc4, sA8, sc8, sA9, sc9, sA6, sc6, sA7, sc7, rfl, sl4, sg4, sl8, sg8, sl9, sg9, sl6, sg6, sl7, sg7⟩ := kFS_openV hK
 clear hK sl4 sg4 sl8 sg8 sl9 sg9 sl6 sg6 sl7
 have sG7 := Aside0.mk sg7; clear sg7
 have hmax : s.arms.length ≤ 9223372036854775807 := sG7.out.2.1
 have HBS := Aside0.mk hbs; have HIN := Aside0.mk hin; have HQQ := Aside0.mk hq; have IH := Aside0.mk ih
 clear hbs hin hq ih
 obtain ⟨⟨v, on⟩, hv⟩ : ∃ c, vget f s.name = c := ⟨_, rfl⟩
 rw [hv]
 obtain ⟨R, hR⟩ : ∃ R, (if ((v, on) : Cl).2 then doA I l N base ((v, on) : Cl).1 s.arms f m cn else (m, cn, none)) = R := ⟨_, rfl⟩
 rw [hR]
 have HR := Aside0.mk hR
 clear hR
 have hBA := below_alloc (Below.refl w.heap.size w) (.cells #[.int .i64 s.op, .string s.name, .int .i64 s.pos, .int .i64 s.fn, .slice sA4 (s.names).length sc4, .int .i64 s.e.f0, .string s.e.f1, .int .i64 s.e.f2, .slice sA8 (s.e.f3).length sc8, .slice sA9 (s.e.f4).length sc9, .slice sA6 (s.args).length sc6, .slice sA7 (s.arms).length sc7] 41)
 have BS := Aside0.mk (blk_new w (.cells #[.int .i64 s.op, .string s.name, .int .i64 s.pos, .int .i64 s.fn, .slice sA4 (s.names).length sc4, .int .i64 s.e.f0, .string s.e.f1, .int .i64 s.e.f2, .slice sA8 (s.e.f3).length sc8, .slice sA9 (s.e.f4).length sc9, .slice sA6 (s.args).length sc6, .slice sA7 (s.arms).length sc7] 41))
 have HF := Aside0.mk (h.below' hBA)
 have HB := Aside0.mk hBA
 clear h hBA
 go_enter Tryz.func117, Tryz.ntmps117
 go_upto_region 1 with fail
 obtain ⟨gs, hq⟩ : ∃ gs, w.heap.size = gs := ⟨_, rfl⟩
 rw [hq] at BS ⊢
 clear hq
 generalize w.alloc (.cells #[.int .i64 s.op, .string s.name, .int .i64 s.pos, .int .i64 s.fn, .slice sA4 (s.names).length sc4, .int .i64 s.e.f0, .string s.e.f1, .int .i64 s.e.f2, .slice sA8 (s.e.f3).length sc8, .slice sA9 (s.e.f4).length sc9, .slice sA6 (s.args).length sc6, .slice sA7 (s.arms).length sc7] 41) = w1 at HF HB BS ⊢
 have hg := get_calls HF.out s.name
 rw [hv] at hg
 unfold encR at hg
 simp only [] at hg
 have cs_1 := (blk_cell BS.out 1).trans rfl
 clear hv
 go_wp2_with fail
 refine hg.mono ?_
 rintro e w6 ⟨rfl, hb⟩
 replace HF := Aside0.mk (HF.out.below' hb)
 replace HB := Aside0.mk (below_step HB.out hb)
 replace BS := Aside0.mk (below_blk BS.out hb)
 clear hb hg cs_1
 cases on with
 | false =>
  go_wp2_with ((with_reducible refine gate_store (t := 93) (p := 5) rfl ?_); refine store_whole rfl rfl 93 _ _ rfl w6.heap.size _ 93 rfl (blk_new _ _) _ rfl rfl rfl (by simp [Value.oneCell']) ?_; intro w2 hb2 hg2; have hba := below_as (Below.refl w6.heap.size w6) hg2; replace HF := Aside0.mk (HF.out.below' hba); replace HB := Aside0.mk (below_step HB.out hba); replace BS := Aside0.mk (below_blk BS.out hba); obtain ⟨gc, hq_⟩ : ∃ g_, g_ = w6.heap.size := ⟨_, rfl⟩; rw [← hq_] at hb2; rw [← hq_]; have BC := Aside0.mk hb2; clear hb2 hg2 hq_ hba; have cc_0 := (blk_cell BC.out 0).trans rfl; have cc_1 := (blk_cell BC.out 1).trans rfl)
  go_ret
  exact rdo_no HR.out.symm HF.out.run HF.out.inm (DV_below HB.out)
 | true =>
  go_upto_region 4 with ((with_reducible refine gate_store (t := 93) (p := 5) rfl ?_); refine store_whole rfl rfl 93 _ _ rfl w6.heap.size _ 93 rfl (blk_new _ _) _ rfl rfl rfl (by simp [Value.oneCell']) ?_; intro w2 hb2 hg2; have hba := below_as (Below.refl w6.heap.size w6) hg2; replace HF := Aside0.mk (HF.out.below' hba); replace HB := Aside0.mk (below_step HB.out hba); replace BS := Aside0.mk (below_blk BS.out hba); obtain ⟨gc, hq_⟩ : ∃ g_, g_ = w6.heap.size := ⟨_, rfl⟩; rw [← hq_] at hb2; rw [← hq_]; have BC := Aside0.mk hb2; clear hb2 hg2 hq_ hba; have cc_0 := (blk_cell BC.out 0).trans rfl; have cc_1 := (blk_cell BC.out 1).trans rfl)
  clear cc_0 cc_1
  replace HR := Aside0.mk (show doA I l N base v s.arms f m cn = R from HR.out)
  have cs_11 := (blk_cell BS.out 11).trans rfl
  go_wp2_with fail
  clear cs_11
  go_loopg [6] s.arms.length (fun gg s6 wr => ∃ kk : Nat, kk ≤ s.arms.length ∧ s.arms.length - kk ≤ gg ∧ s6 = .int .i64 kk ∧ Aside0 (FAtR w0 wr g ma A c l N m tr cn gf base bv q f false) ∧ Aside0 (Below w.heap.size w wr) ∧ Aside0 (wr.heap[gs]? = some (.cells #[.int .i64 s.op, .string s.name, .int .i64 s.pos, .int .i64 s.fn, .slice sA4 (s.names).length sc4, .int .i64 s.e.f0, .string s.e.f1, .int .i64 s.e.f2, .slice sA8 (s.e.f3).length sc8, .slice sA9 (s.e.f4).length sc9, .slice sA6 (s.args).length sc6, .slice sA7 (s.arms).length sc7] 41 (0, 0))) ∧ Aside0 (wr.heap[gc]? = some (.cells #[.bool true, .int .i64 v] 93 (0, 0))) ∧ Aside0 (doA I l N base v (s.arms.drop kk) f m cn = R))
  case atStart => exact ⟨0, Nat.zero_le _, by omega, rfl, HF, HB, BS, BC, HR⟩
  case round =>
   clear HF HB BS BC HR
   obtain ⟨kk, hkk, hgk, rfl, HF, HB, BS, BC, HR⟩ := hrel
   have cs_11 := (blk_cell BS.out 11).trans rfl
   have cc_1 := (blk_cell BC.out 1).trans rfl
   by_cases hlt : kk < s.arms.length
   ·have hltz : (kk : Int) < (s.arms.length : Int) := by omega
    have HMA := Aside0.mk (getD_mem hlt zFA)
    have HR1 := Aside0.mk (show (if (s.arms.getD kk zFA).1 = v then doL I l N base (s.arms.getD kk zFA).2 f m cn else doA I l N base v (s.arms.drop (kk + 1)) f m cn) = R by rw [← HR.out, drop_getD s.arms kk hlt zFA, doA_cons])
    clear HR
    obtain ⟨aad, acs, hae, _, aK, acc⟩ := Kd.C_get sG7.out zFA (kk : Int) (by omega) (by omega)
    subst hae
    have aK' := aK
    obtain ⟨aA1, ac1, rfl, al1, ag1⟩ := kFA_open aK'
    have ax0 := (HF.out.run.below.cell (World.block_lt_of_cell? w0 _ (acc 0 _ rfl))).trans (acc 0 _ rfl)
    have ax1 := (HF.out.run.below.cell (World.block_lt_of_cell? w0 _ (acc 1 _ rfl))).trans (acc 1 _ rfl)
    rw [show (kFA).sz = 2 from rfl, Nat.add_zero, Int.toNat_natCast] at ax0
    rw [show (kFA).sz = 2 from rfl, Int.toNat_natCast, add_field _ _ 1 (by omega)] at ax1
    clear acc
    try simp only [Int.toNat_natCast] at ax0 ax1 aK al1 ag1
    generalize Ya0 : s.arms.getD kk zFA = a at ax0 ax1 aK al1 ag1
    have Ya := Aside0.mk Ya0; clear Ya0
    rw [Ya.out] at HR1 HMA
    have aG1 := Aside0.mk ag1; clear al1 ag1 aK
    by_cases e : a.1 = v
    ·have t0 : (a.1 == v) = true := by rw [e]; exact beq_self_eq_true _
     have HR2 := Aside0.mk (show doL I l N base a.2 f m cn = R by rw [← HR1.out, if_pos e])
     clear HR1 e
     have HMN := Aside0.mk (nmA_mem HMA.out)
     go_wp2_with fail
     go_quiet (fail)
     have HD := pw_below_drewN (Below.refl wr.heap.size wr) nq
     replace HF := Aside0.mk (HF.out.below' HD)
     replace HB := Aside0.mk (below_step HB.out HD)
     replace BS := Aside0.mk (below_blk BS.out HD)
     replace BC := Aside0.mk (below_blk BC.out HD)
     replace ax1 := (HD.cell (World.block_lt_of_cell? wr _ ax1)).trans ax1
     clear HD ax0 cc_1 cs_11
     generalize wr.drewN nq = w8 at HF HB BS BC ax1 ⊢
     have cs_11 := (blk_cell BS.out 11).trans rfl
     go_wp2_with fail
     refine (IH.out a HMA.out f m cn q w8 aA1 ac1 (badS_arm HBS.out HMA.out) (HIN.out a HMA.out) HF.out aG1.out (by have := HMN.out; have := HQQ.out; omega)).mono ?_
     clear cs_11 ax1 t0
     intro e w9 hp
     rw [HR2.out] at hp
     unfold RDoPost at hp
     rcases hr : R with ⟨m2, cn2, _ | f2⟩
     ·rw [hr] at hp
      obtain ⟨⟨rfl, hR9, hm9⟩, ht9⟩ := hp
      have HR9 := Aside0.mk hR9
      have HM9 := Aside0.mk hm9
      have HT9 := Aside0.mk (DV.trans (DV_below HB.out) ht9)
      clear hR9 hm9 ht9 HR2 HF
      go_wp2_with fail
      go_ret
      exact rdo_no hr HR9.out HM9.out HT9.out
     ·rw [hr] at hp
      obtain ⟨⟨rfl, hF9⟩, ht9⟩ := hp
      have HF9 := Aside0.mk hF9
      have HT9 := Aside0.mk (DV.trans (DV_below HB.out) ht9)
      clear hF9 ht9 HR2 HF
      go_wp2_with fail
      go_ret
      exact rdo_yes hr HF9.out (by have := HMN.out; omega) HT9.out
    ·have t0 : (a.1 == v) = false := beq_eq_false_iff_ne.2 e
     have HR2 := Aside0.mk (show doA I l N base v (s.arms.drop (kk + 1)) f m cn = R by rw [← HR1.out, if_neg e])
     clear HR1 e
     go_wp2_with fail
     go_quiet (fail)
     have HD := pw_below_drewN (Below.refl wr.heap.size wr) nq
     replace HF := Aside0.mk (HF.out.below' HD)
     replace HB := Aside0.mk (below_step HB.out HD)
     replace BS := Aside0.mk (below_blk BS.out HD)
     replace BC := Aside0.mk (below_blk BC.out HD)
     replace ax1 := (HD.cell (World.block_lt_of_cell? wr _ ax1)).trans ax1
     clear HD ax0 ax1 cc_1 cs_11
     go_wp2_with fail
     go_roundg (s.arms.length - (kk + 1))
     case measure => omega
     case rel => exact ⟨kk + 1, by omega, by omega, by go_num, HF, HB, BS, BC, HR2⟩
   ·obtain rfl : kk = s.arms.length := by omega
    have hltz : ¬ ((s.arms.length : Int) < (s.arms.length : Int)) := by omega
    have hr : R = (m, cn, some f) := by rw [← HR.out, List.drop_length, doA_nil]
    have HRR := Aside0.mk hr
    clear hr HR cc_1
    go_wp2_with fail
    go_ret
    exact rdo_yes HRR.out HF.out (by omega) (DV_below HB.out)
end Go.Proofs.YticndoihkfbpoaaGreatDoor
