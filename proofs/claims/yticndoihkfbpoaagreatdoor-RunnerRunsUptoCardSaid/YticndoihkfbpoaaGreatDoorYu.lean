/- The reference's runner: Step. -/
import Derived.Test.YticndoihkfbpoaaGreatDoorYs
namespace Go.Proofs.YticndoihkfbpoaaGreatDoor
open Go Go.RowKit Go.Lib Go.Proofs.YticndoihkfbpoaaGreatDoorW.PrintWords Go.Proofs.YticndoihkfbpoaaGreatDoor.PScope
set_option maxRecDepth 100000
set_option linter.unusedSimpArgs false
set_option linter.unusedVariables false
attribute [local irreducible] wpStill
def RStepPost (w0 : World) (g : Nat) (ma : Addr) (A : Option Addr) (c : Nat) (l : List FF) (N : Nat) (r : StepR) (w : World) (e : Ending) (w' : World) : Prop :=
 (∃ B cB, e = .returned (.tuple #[.slice B r.2.2.2.1.length cB, .int .i64 r.2.2.2.2]) ∧ (Kd.int .i64).C w' B r.2.2.2.1.length r.2.2.2.1 ∧ ∀ ad, B = some ad → w.heap.size ≤ ad.block) ∧ RAtR w0 w' g ma A c l N r.1 r.2.1 r.2.2.1 ∧ MemIn r.1 ∧ Turned (fun b => b = g ∨ b = ma.block) w w'
section
variable {w0 w w' : World} {g : Nat} {ma : Addr} {A : Option Addr} {c : Nat} {l : List FF} {N : Nat} {m : List Cl} {tr : Bool} {cn : Int}
theorem rsp_none {R : StepR} {er : Int} (hR : R = (m, tr, cn, [], er)) (hr : RAtR w0 w' g ma A c l N m tr cn) (hm : MemIn m) (ht : Turned (fun b => b = g ∨ b = ma.block) w w') : RStepPost w0 g ma A c l N R w (.returned (.tuple #[.slice none 0 0, .int .i64 er])) w' := by
 subst hR
 exact ⟨⟨none, 0, rfl, ints_none w', fun ad e => by cases e⟩, hr, hm, ht⟩
theorem rsp_some {R : StepR} {xs : List Int} {B : Option Addr} {cB : Nat} (hR : R = (m, false, cn, xs, 0)) (hr : RAtR w0 w' g ma A c l N m false cn) (hm : MemIn m) (ht : Turned (fun b => b = g ∨ b = ma.block) w w') (hC : (Kd.int .i64).C w' B xs.length xs) (hf : ∀ ad, B = some ad → w.heap.size ≤ ad.block) : RStepPost w0 g ma A c l N R w (.returned (.tuple #[.slice B xs.length cB, .int .i64 0])) w' := by
 subst hR
 exact ⟨⟨B, cB, rfl, hC, hf⟩, hr, hm, ht⟩
set_option maxHeartbeats 4000000 in
theorem rstepm_calls (hok : flatOk l = true) (hsm : FlatSmall l) (hfi : FlatIn l) (hC : kFF.C w0 A l.length l) (hfw : ∀ f ∈ l, f.params.length ≤ 8796093022208) (hfr : ∀ f ∈ l, f.results.length ≤ 8796093022208)
  (ins : List Int) (B : Option Addr) (cB : Nat) (hii : ∀ x ∈ ins, InR x) (hV : ∀ W, Turned (fun b => b = g ∨ b = ma.block) w W → (Kd.int .i64).C W B ins.length ins) (h : RAtR w0 w g ma A c l N m tr cn) (hm : MemIn m) : Calls Tryz.prog 26 #[.pointer (some ⟨g, 0, none⟩), .slice B ins.length cB] w (RStepPost w0 g ma A c l N (stepR l N m tr cn ins) w) := by
 have hpos := flat_pos hok
 have HI := Aside0.mk (rinstF_says w0 g ma A c l N tr hok hsm hfi hC hfw hfr l.length (Nat.le_refl _))
 have hlm := hsm.len
 obtain ⟨R, hR⟩ : ∃ R, stepR l N m tr cn ins = R := ⟨_, rfl⟩
 rw [hR]
 have HR := Aside0.mk hR
 obtain ⟨v, hv⟩ : ∃ v, lastV l = v := ⟨_, rfl⟩
 have hv2 : ((l.length - 1 : Nat) : Int) = v := hv
 have hv0 : 0 ≤ v := by omega
 have hv1 : v < (l.length : Int) := by omega
 have hw1 : wrap64 ((l.length : Int) - 1) = v := by unfold wrap64; omega
 have HVL := Aside0.mk hv
 obtain ⟨xad, xcs, rfl, _, xK, xcc⟩ := Kd.C_get hC zFF v hv0 hv1
 have xK' := xK
 obtain ⟨xA0, xc0, xA1, xc1, xA3, xc3, xA4, xc4, xA5, xc5, rfl, xl0, xg0, xl1, xg1, xl3, xg3, xl4, xg4, xl5, xg5⟩ := kFF_open6 xK'
 have xx0 := (h.below.cell (World.block_lt_of_cell? w0 _ (xcc 0 _ rfl))).trans (xcc 0 _ rfl)
 rw [show (kFF).sz = 6 from rfl, Nat.add_zero] at xx0
 have HRA := Aside0.mk (fun (h : ¬ ins.length = (l.getD v.toNat zFF).params.length) => stepR_arg (N := N) (m := m) (tr := tr) (cn := cn) (show ¬ ins.length = (l.getD (lastV l).toNat zFF).params.length by rw [hv]; exact h))
 have HPE := Aside0.mk (fun (h : ins.length = (l.getD v.toNat zFF).params.length) => show ins.length = (l.getD (lastV l).toNat zFF).params.length by rw [hv]; exact h)
 have HSP := Aside0.mk (fun (h : ins.length = (l.getD v.toNat zFF).params.length) => (fun (W : World) (hR : RAtR w0 W g ma (some xad) c l N m tr 0) (hC : (Kd.int .i64).C W B ins.length ins) => HI.out v 0 ins m 0 W B cB hv0 hv1 h hR hm hii hC))
 generalize l.getD v.toNat zFF = x at xx0 HRA HPE HSP
 have y0 := (blk_cell h.blk 0).trans rfl
 have y2 := (blk_cell h.blk 2).trans rfl
 have H := Aside0.mk h
 have HM := Aside0.mk hm
 have HV := Aside0.mk hV
 have HT := Aside0.mk (Turned.refl (fun b => b = g ∨ b = ma.block) w)
 have H0N := Aside0.mk (adj_ok (N := N) (Int.le_refl 0) (by omega))
 clear xcc xK xK' xl0 xg0 xl1 xg1 xl3 xg3 xl4 xg4 xl5 xg5 hV hC hok hsm hfi hfw hfr hR hv hv2 HI hpos h hm hii hlm
 by_cases hl : ins.length = x.params.length
 ·have d0 : ((ins.length : Int) != (x.params.length : Int)) = false := by rw [hl]; exact bne_self_eq_false _
  have HL := Aside0.mk (HPE.out hl)
  have HS := Aside0.mk (HSP.out hl)
  clear hl HSP HPE HRA
  cases tr with
  | true =>
   have HRR := Aside0.mk (show R = (m, true, cn, [], 13) by rw [← HR.out]; exact stepR_state HL.out)
   clear HS
   go_enter Tryz.func26, Tryz.ntmps26
   go_wp2_with fail
   go_ret2
   exact rsp_none HRR.out H.out HM.out HT.out
  | false =>
   have H2 := Aside0.mk (H.out.countS 0)
   have HT2 := Aside0.mk (HT.out.set (p := ⟨g, 3, none⟩) (.inl rfl) (.int .i64 0))
   have y3 := (blk_cell H.out.blk 3).trans rfl
   have f3 := blk_frozen H.out.blk 3
   have HCL := Aside0.mk (HS.out _ H2.out (HV.out _ HT2.out))
   rw [H0N.out] at HCL
   have HRN := Aside0.mk (fun (m1 : List Cl) (cn1 : Int) (h : instF l N l.length v 0 ins m 0 = (m1, cn1, none)) => show R = (m1, true, cn1, [], 12) by rw [← HR.out]; exact stepR_trap HL.out (by rw [HVL.out]; exact h))
   have HRS := Aside0.mk (fun (m1 : List Cl) (cn1 : Int) (xs : List Int) (h : instF l N l.length v 0 ins m 0 = (m1, cn1, some xs)) => show R = (m1, false, cn1, xs, 0) by rw [← HR.out]; exact stepR_some HL.out (by rw [HVL.out]; exact h))
   clear HS
   go_enter Tryz.func26, Tryz.ntmps26
   go_wp2_with fail
   refine HCL.out.mono ?_
   intro e w9 hp
   unfold RInPost at hp
   rcases hr : instF l N l.length v 0 ins m 0 with ⟨m1, cn1, _ | xs⟩
   ·rw [hr] at hp
    obtain ⟨rfl, hR9, hm9, ht9⟩ := hp
    have HRR := Aside0.mk (HRN.out m1 cn1 hr)
    have H9 := Aside0.mk (hR9.trap true)
    have HM9 := Aside0.mk hm9
    have HT9 := Aside0.mk ((HT2.out.trans ht9).set (p := ⟨g, 2, none⟩) (.inl rfl) (.bool true))
    have z2 := (blk_cell hR9.blk 2).trans rfl
    have fz2 := blk_frozen hR9.blk 2
    clear hr hR9 hm9 ht9 HCL y0 y2 y3 f3 xx0
    go_wp2_with fail
    go_ret2
    exact rsp_none HRR.out H9.out HM9.out HT9.out
   ·rw [hr] at hp
    obtain ⟨⟨B9, cB9, rfl, hC9, hf9, _⟩, hR9, hm9, ht9⟩ := hp
    have HRR := Aside0.mk (HRS.out m1 cn1 xs hr)
    have H9 := Aside0.mk hR9
    have HM9 := Aside0.mk hm9
    have HC9 := Aside0.mk hC9
    have HT9 := Aside0.mk (HT2.out.trans ht9)
    have HF9 := Aside0.mk (fun (ad : Addr) (e : B9 = some ad) => show w.heap.size ≤ ad.block from (by have h1 := (hf9 ad e).1; have h2 := HT2.out.size; omega))
    clear hr hR9 hm9 ht9 hC9 hf9 HCL y0 y2 y3 f3 xx0
    go_wp2_with fail
    go_ret2
    exact rsp_some HRR.out H9.out HM9.out HT9.out HC9.out HF9.out
 ·have d0 : ((ins.length : Int) != (x.params.length : Int)) = true := bne_iff_ne.2 (by omega)
  have HRR := Aside0.mk (show R = (m, tr, cn, [], 1) by rw [← HR.out]; exact HRA.out hl)
  clear hl
  go_enter Tryz.func26, Tryz.ntmps26
  go_wp2_with fail
  go_ret2
  exact rsp_none HRR.out H.out HM.out HT.out
end
section
variable {w0 w1 w w' W : World} {g : Nat} {ma : Addr} {A : Option Addr} {c : Nat} {l : List FF} {N : Nat} {m : List Cl} {tr : Bool} {cn : Int}
theorem RAt.moved {S : Nat → Prop} (h : RAt w0 w g ma A c l N m tr cn) (ht : Turned S w w') (hg : ¬ S g) (hm : ¬ S ma.block) (hw : ∀ k, S k → w0.heap.size ≤ k) : RAt w0 w' g ma A c l N m tr cn :=
 ⟨ht.blk h.blk hg, ⟨h.mem.1, ht.blk h.mem.2 hm⟩, h.len, h.few, h.hg, h.hb, h.ne, ht.below h.below h.below.size hw⟩
theorem RAtR.rebase (h : RAtR w0 w g ma A c l N m tr cn) (hb : Below w1.heap.size w1 w) (hs : w1.heap.size ≤ w0.heap.size) : RAtR w1 w g ma A c l N m tr cn :=
 ⟨h.blk, h.mem, h.len, h.few, Nat.le_trans hs h.hg, Nat.le_trans hs h.hb, h.ne, hb⟩
theorem RAtR.keeps (h : RAtR w0 w g ma A c l N m tr cn) (ht : Turned (fun b => b = g ∨ b = ma.block) w W) : Below w0.heap.size w0 W :=
 ht.below h.below h.below.size (fun k hk => hk.elim (fun e => e ▸ h.hg) (fun e => e ▸ h.hb))
end
theorem script_rows {w0 : World} {B : Option Addr} {script : List (List Int)} (hS : Kd.C (Kd.slice 2 (Kd.int .i64)) w0 B script.length script) (k : Nat) (hk : k < script.length) :
  ∃ ad Ai ci, B = some ad ∧ (∀ w, Below w0.heap.size w0 w → w.cell? (ad.add k) = some (.slice Ai (script.getD k []).length ci)) ∧ (Kd.int .i64).C w0 Ai (script.getD k []).length (script.getD k []) := by
 obtain ⟨ad, cs, rfl, _, hK, cc⟩ := Kd.C_get hS ([] : List Int) (k : Int) (by omega) (by omega)
 rw [Int.toNat_natCast] at hK
 obtain ⟨Ai, ci, rfl, _, hC⟩ := hK
 refine ⟨ad, Ai, ci, rfl, fun w hb => ?_, hC⟩
 have x0 := (hb.cell (World.block_lt_of_cell? w0 _ (cc 0 _ rfl))).trans (cc 0 _ rfl)
 rw [show (Kd.slice 2 (Kd.int .i64)).sz = 1 from rfl, Nat.mul_one, Nat.add_zero, Int.toNat_natCast] at x0
 exact x0
theorem begunM_in (l : List FF) {m : List Cl} (h : MemIn m) : MemIn (begunM l m) := by
 unfold begunM
 exact anewF_in _ _ _ _ h
theorem zeros_in (n : Nat) : MemIn (List.replicate n (0, false)) := fun c hc => by rw [List.eq_of_mem_replicate hc]; exact InR.zero
set_option maxHeartbeats 8000000 in
theorem runnerRuns_calls (l : List FF) (hl : FlatSmall l) (hfw : ∀ f ∈ l, f.params.length ≤ 8796093022208) (hfr : ∀ f ∈ l, f.results.length ≤ 8796093022208) (hfi : FlatIn l) (w : World) (A : Option Addr) (c : Nat) (hC : kFF.C w A l.length l) (script : List (List Int)) (B : Option Addr) (cB : Nat) (hS : Kd.C (Kd.slice 2 (Kd.int .i64)) w B script.length script) (hsi : ∀ r ∈ script, ∀ x ∈ r, InR x) (hL : LaidR w) :
  Calls Tryz.prog 5 #[.agg #[.slice A l.length c], .slice B script.length cB] w fun e w' => e = .returned (.bool true) ∧ Below w.heap.size w w' := by
 have HLS := Aside0.mk hl; have HFW := Aside0.mk hfw; have HFR := Aside0.mk hfr; have HFI := Aside0.mk hfi; have HSI := Aside0.mk hsi
 have hba := below_alloc (Below.refl w.heap.size w) (.cells #[.slice A l.length c] 24)
 have BX := Aside0.mk (blk_new w (.cells #[.slice A l.length c] 24))
 have hlv := rlives_calls _ (hL.below hba)
 have HC := Aside0.mk (Kd.C_below hC hba); have HS := Aside0.mk (Kd.C_below hS hba); have HB := Aside0.mk hba
 have hsm : script.length ≤ 9223372036854775807 := hS.2.1
 clear hl hfw hfr hfi hsi hC hS hL hba
 go_enter Tryz.func5, Tryz.ntmps5
 go_wp2_with fail
 obtain ⟨gx, hgx⟩ : ∃ gx, w.heap.size = gx := ⟨_, rfl⟩
 rw [hgx] at BX ⊢
 clear hgx
 refine hlv.mono ?_
 rintro e w1 ⟨rfl, hb⟩
 replace BX := Aside0.mk (below_blk BX.out hb); replace HC := Aside0.mk (Kd.C_below HC.out hb); replace HS := Aside0.mk (Kd.C_below HS.out hb); replace HB := Aside0.mk (below_step HB.out hb)
 clear hb hlv
 have bx0 := (blk_cell BX.out 0).trans rfl
 go_wp2_with fail
 refine (new_calls l HLS.out w1 A c HC.out).mono ?_
 clear bx0
 intro e w3 hp
 unfold NewPost at hp
 rcases hp with ⟨hne, rfl, hb⟩ | ⟨h0, g, ma, rfl, hR⟩
 ·replace BX := Aside0.mk (below_blk BX.out hb)
  have HC3 := Aside0.mk (Kd.C_below HC.out hb)
  have HB3 := Aside0.mk (below_step HB.out hb)
  have HNE := Aside0.mk hne
  obtain ⟨er, her⟩ : ∃ er, newErr l = er := ⟨_, rfl⟩
  have HER := Aside0.mk her
  rw [her]
  clear hb hne her
  have bx0 := (blk_cell BX.out 0).trans rfl
  go_wp2_with fail
  refine (rnew_calls l HLS.out w3 A c HC3.out).mono ?_
  clear bx0
  intro e w4 hp
  unfold RNewPost at hp
  rcases hp with ⟨_, rfl, hb⟩ | ⟨h0, _⟩
  ·have HB4 := Aside0.mk (below_step HB3.out hb)
   rw [HER.out]
   clear hb
   have d : (er != er) = false := bne_self_eq_false _
   go_wp2_with fail
   go_ret
   exact ⟨rfl, HB4.out⟩
  ·exact absurd h0 HNE.out
 have HOK := Aside0.mk (newOk h0)
 have HN0 := Aside0.mk h0
 obtain ⟨N, hN⟩ : ∃ N, cellsN l = N := ⟨_, rfl⟩
 have HM := Aside0.mk (begunM_in l (zeros_in (cellsN l)))
 obtain ⟨m0, hm0⟩ : ∃ m0, begunM l (List.replicate (cellsN l) (0, false)) = m0 := ⟨_, rfl⟩
 rw [hm0] at hR HM
 rw [hN] at hR
 have HR := Aside0.mk hR
 replace BX := Aside0.mk (below_blk BX.out hR.below)
 have HC3 := Aside0.mk (Kd.C_below HC.out hR.below)
 have HN := Aside0.mk hN
 have HM0 := Aside0.mk hm0
 clear h0 hR hN hm0
 have bx0 := (blk_cell BX.out 0).trans rfl
 go_wp2_with fail
 refine (rnew_calls l HLS.out w3 A c HC3.out).mono ?_
 clear bx0
 intro e w4 hp
 unfold RNewPost at hp
 rcases hp with ⟨hne, _⟩ | ⟨_, g2, ma2, rfl, hR2⟩
 ·exact absurd HN0.out hne
 rw [HM0.out, HN.out] at hR2
 have NE := Aside0.mk (show g < w3.heap.size ∧ ma.block < w3.heap.size ∧ w3.heap.size ≤ g2 ∧ w3.heap.size ≤ ma2.block ∧ w1.heap.size ≤ w3.heap.size from ⟨blk_lt HR.out.blk, blk_lt HR.out.mem.2, hR2.hg, hR2.hb, HR.out.below.size⟩)
 replace HR := Aside0.mk (HR.out.below' hR2.below)
 have HQ := Aside0.mk (hR2.rebase HR.out.below NE.out.2.2.2.2)
 clear hR2 HM0 HN0 HC3
 have d : ((0 : Int) != (0 : Int)) = false := bne_self_eq_false _
 go_wp2_with fail
 clear d
 go_loopg [9] script.length (fun gg s9 wr => ∃ (kk : Nat) (m : List Cl) (tr : Bool) (cn : Int), kk ≤ script.length ∧ script.length - kk ≤ gg ∧ s9 = .int .i64 kk ∧ Aside0 (RAt w1 wr g ma A c l N m tr cn) ∧ Aside0 (RAtR w1 wr g2 ma2 A c l N m tr cn) ∧ Aside0 (MemIn m))
 case atStart => exact ⟨0, m0, false, 0, Nat.zero_le _, by omega, rfl, HR, HQ, HM⟩
 case round =>
  clear HR HQ HM
  obtain ⟨kk, m, tr, cn, hkk, hgk, rfl, HR, HQ, HM⟩ := hrel
  by_cases hlt : kk < script.length
  ·have hltz : (kk : Int) < (script.length : Int) := by omega
   obtain ⟨sad, Ai, ci, hB, hxs, hRow⟩ := script_rows HS.out kk hlt
   have HII := Aside0.mk (HSI.out _ (getD_mem hlt ([] : List Int)))
   obtain ⟨ins, hins⟩ : ∃ ins, script.getD kk [] = ins := ⟨_, rfl⟩
   rw [hins] at hxs hRow HII
   subst hB
   have HROW := Aside0.mk hRow
   have xs0 := hxs _ HR.out.below
   have HXS := Aside0.mk hxs
   clear hRow hins hxs
   have NEQ := Aside0.mk (show (¬ (g2 = g ∨ g2 = ma.block)) ∧ (¬ (ma2.block = g ∨ ma2.block = ma.block)) ∧ (¬ (g = g2 ∨ g = ma2.block)) ∧ (¬ (ma.block = g2 ∨ ma.block = ma2.block)) from by have := NE.out; omega)
   cases Ai with
   | none =>
    have hnil : ∀ W, (binOp .eql 49 (.slice none ins.length ci) (.slice none 0 0)).run Tryz.prog W = .ok (.bool true) W := fun W => Lib.run_eql_slice_nil W _ _ none _ _ 0 0 Tryz.underlying49
    go_wp2_with fail
    clear hnil
    refine (rbegin_calls HR.out HOK.out (by have := HLS.out.len; omega) HC.out HN.out.symm).mono ?_
    rintro e w6 ⟨rfl, hR, hT⟩
    replace HQ := Aside0.mk (HQ.out.moved hT NEQ.out.1 NEQ.out.2.1 (fun k hk => hk.elim (fun e => e ▸ HR.out.hg) (fun e => e ▸ HR.out.hb)))
    replace HR := Aside0.mk hR
    clear hR hT xs0
    go_wp2_with fail
    refine (rbeginR_calls HQ.out HOK.out (by have := HLS.out.len; omega) HC.out HN.out.symm).mono ?_
    rintro e w7 ⟨rfl, hR, hT⟩
    replace HR := Aside0.mk (HR.out.moved hT NEQ.out.2.2.1 NEQ.out.2.2.2 (fun k hk => hk.elim (fun e => e ▸ HQ.out.hg) (fun e => e ▸ HQ.out.hb)))
    replace HQ := Aside0.mk hR
    replace HM := Aside0.mk (begunM_in l HM.out)
    clear hR hT
    go_upto_region 19 with fail
    obtain ⟨wz, hwz⟩ : ∃ wz, wz = w7 := ⟨_, rfl⟩
    subst hwz
    have y3 := (blk_cell HQ.out.blk 3).trans rfl
    have dn1 : (((0 : Int) : Int) != ((0 : Int) : Int)) = false := bne_self_eq_false _
    have dn2 : ((defN (begunM l m) : Int) != (defN (begunM l m) : Int)) = false := bne_self_eq_false _
    have dn3 : ((N : Int) != (N : Int)) = false := bne_self_eq_false _
    go_region_with (first | (go_at_call 28; refine (rcount_calls (HR.out.below' (by repeat (first | exact Below.refl _ _ | apply below_drew1)))).mono ?_; rintro e w10 ⟨rfl, rfl⟩) | (go_at_call 29; refine (rdefined_calls (HR.out.below' (by repeat (first | exact Below.refl _ _ | apply below_drew1)))).mono ?_; rintro e w10 ⟨rfl, hb10⟩; have HR10 := Aside0.mk ((HR.out.below' (by repeat (first | exact Below.refl _ _ | apply below_drew1))).below' hb10); have HQ10 := Aside0.mk ((HQ.out.below' (by repeat (first | exact Below.refl _ _ | apply below_drew1))).below' hb10); clear hb10; have y1 := (blk_cell HQ10.out.blk 1).trans rfl) | (go_at_call 30; refine (rdefR_calls (HQ10.out.below' (by repeat (first | exact Below.refl _ _ | apply below_drew1)))).mono ?_; rintro e w11 ⟨rfl, rfl⟩) | (go_at_call 31; refine (rcells_calls (HR10.out.below' (by repeat (first | exact Below.refl _ _ | apply below_drew1)))).mono ?_; rintro e w11 ⟨rfl, rfl⟩))
    all_goals
     clear HR HQ y3 y1 dn1 dn2 dn3
     skip
     go_wp2_with fail
     go_roundg (script.length - (kk + 1))
     case measure => omega
     case rel => exact ⟨kk + 1, (begunM l m), false, (0 : Int), by omega, by omega, by go_num, ⟨HR10.out.below' (by repeat (first | exact Below.refl _ _ | apply below_drew1))⟩, ⟨HQ10.out.below' (by repeat (first | exact Below.refl _ _ | apply below_drew1))⟩, HM⟩
   | some aa =>
    have HST := Aside0.mk (stepm_calls HOK.out HLS.out HC.out HFW.out HFR.out ins (some aa) ci (fun W hW => Kd.C_below HROW.out (HR.out.keeps hW)) HR.out)
    obtain ⟨R, hR0⟩ : ∃ R, stepR l N m tr cn ins = R := ⟨_, rfl⟩
    rw [hR0] at HST
    have HRR := Aside0.mk hR0
    clear hR0
    obtain ⟨m1, tr1, cn1, os, er⟩ := R
    have hnil : ∀ W, (binOp .eql 49 (.slice (some aa) ins.length ci) (.slice none 0 0)).run Tryz.prog W = .ok (.bool false) W := fun W => Lib.run_eql_slice_nil W _ _ (some aa) _ _ 0 0 Tryz.underlying49
    go_wp2_with fail
    clear hnil
    refine HST.out.mono ?_
    clear HST
    rintro e w6 ⟨⟨Bo, cBo, rfl, hCo, hfo⟩, hR, hT⟩
    simp only [] at hR hCo ⊢
    have HQ6 := Aside0.mk (HQ.out.moved hT NEQ.out.1 NEQ.out.2.1 (fun k hk => hk.elim (fun e => e ▸ HR.out.hg) (fun e => e ▸ HR.out.hb)))
    have HST2 := Aside0.mk (rstepm_calls HOK.out HLS.out HFI.out HC.out HFW.out HFR.out ins (some aa) ci HII.out (fun W hW => Kd.C_below HROW.out (HQ6.out.keeps hW)) HQ6.out HM.out)
    rw [HRR.out] at HST2
    have xs6 := HXS.out _ (HR.out.keeps hT)
    have HFO := Aside0.mk (show ∀ ad, Bo = some ad → ad.block ≠ g2 ∧ ad.block ≠ ma2.block from fun ad e => by have h1 := hfo ad e; have h2 := blk_lt HQ.out.blk; have h3 := blk_lt HQ.out.mem.2; omega)
    replace HR := Aside0.mk hR
    have HCO := Aside0.mk hCo
    clear hR hT hCo hfo xs0
    go_wp2_with fail
    refine HST2.out.mono ?_
    clear HST2 xs6
    rintro e w7 ⟨⟨B2, cB2, rfl, hC2, hf2⟩, hR, hm, hT⟩
    simp only [] at hR hC2 hm ⊢
    replace HCO := Aside0.mk (ints_block HCO.out (fun ad e hne => hT.block ad.block (intsLt HCO.out ad e hne) (fun h => h.elim (HFO.out ad e).1 (HFO.out ad e).2)))
    replace HR := Aside0.mk (HR.out.moved hT NEQ.out.2.2.1 NEQ.out.2.2.2 (fun k hk => hk.elim (fun e => e ▸ HQ6.out.hg) (fun e => e ▸ HQ6.out.hb)))
    replace HQ := Aside0.mk hR
    replace HM := Aside0.mk hm
    have HC2 := Aside0.mk hC2
    clear hR hm hT hC2 hf2 HQ6
    have dn : (er != er) = false := bne_self_eq_false _
    go_wp2_with fail
    refine (same_calls os Bo B2 cBo cB2 _ HCO.out HC2.out).mono ?_
    rintro e w8 ⟨rfl, hb⟩
    replace HR := Aside0.mk (HR.out.below' hb)
    replace HQ := Aside0.mk (HQ.out.below' hb)
    clear hb dn HCO HC2
    go_upto_region 19 with fail
    obtain ⟨wz, hwz⟩ : ∃ wz, wz = w8 := ⟨_, rfl⟩
    subst hwz
    have y3 := (blk_cell HQ.out.blk 3).trans rfl
    have dn1 : ((cn1 : Int) != (cn1 : Int)) = false := bne_self_eq_false _
    have dn2 : ((defN m1 : Int) != (defN m1 : Int)) = false := bne_self_eq_false _
    have dn3 : ((N : Int) != (N : Int)) = false := bne_self_eq_false _
    go_region_with (first | (go_at_call 28; refine (rcount_calls (HR.out.below' (by repeat (first | exact Below.refl _ _ | apply below_drew1)))).mono ?_; rintro e w10 ⟨rfl, rfl⟩) | (go_at_call 29; refine (rdefined_calls (HR.out.below' (by repeat (first | exact Below.refl _ _ | apply below_drew1)))).mono ?_; rintro e w10 ⟨rfl, hb10⟩; have HR10 := Aside0.mk ((HR.out.below' (by repeat (first | exact Below.refl _ _ | apply below_drew1))).below' hb10); have HQ10 := Aside0.mk ((HQ.out.below' (by repeat (first | exact Below.refl _ _ | apply below_drew1))).below' hb10); clear hb10; have y1 := (blk_cell HQ10.out.blk 1).trans rfl) | (go_at_call 30; refine (rdefR_calls (HQ10.out.below' (by repeat (first | exact Below.refl _ _ | apply below_drew1)))).mono ?_; rintro e w11 ⟨rfl, rfl⟩) | (go_at_call 31; refine (rcells_calls (HR10.out.below' (by repeat (first | exact Below.refl _ _ | apply below_drew1)))).mono ?_; rintro e w11 ⟨rfl, rfl⟩))
    all_goals
     clear HR HQ y3 y1 dn1 dn2 dn3
     skip
     go_wp2_with fail
     go_roundg (script.length - (kk + 1))
     case measure => omega
     case rel => exact ⟨kk + 1, m1, tr1, cn1, by omega, by omega, by go_num, ⟨HR10.out.below' (by repeat (first | exact Below.refl _ _ | apply below_drew1))⟩, ⟨HQ10.out.below' (by repeat (first | exact Below.refl _ _ | apply below_drew1))⟩, HM⟩
  ·have hltz : ¬ (kk : Int) < (script.length : Int) := by omega
   have HBE := Aside0.mk (HB.out.trans (HR.out.below.mono HB.out.size))
   go_wp2_with fail
   go_ret
   exact ⟨rfl, HBE.out⟩
end Go.Proofs.YticndoihkfbpoaaGreatDoor
