/- The law BoundAdds: its walk. -/
import Derived.StillTailTactics
import Derived.Deep.RegionLaw
import Derived.Deep.RegionHeld2
import Derived.Test.YticndoihkfbpoaaGreatDoorVm
namespace Go.Proofs.YticndoihkfbpoaaGreatDoor
open Go Go.RowKit Go.Lib Go.Proofs.YticndoihkfbpoaaGreatDoorW.PrintWords Go.Proofs.YticndoihkfbpoaaGreatDoor.PScope
set_option maxRecDepth 100000
set_option linter.unusedSimpArgs false
set_option linter.unusedVariables false

theorem infoFSt : (Tryz.prog.info? 41).map (fun i => (i.zero, i.size, i.bytes)) = some (some (.agg #[.int .i64 0, .string ⟨#[]⟩, .int .i64 0, .int .i64 0, .slice none 0 0, .int .i64 0, .string ⟨#[]⟩, .int .i64 0, .slice none 0 0, .slice none 0 0, .slice none 0 0, .slice none 0 0]), 12, 192) := by kernel_rfl
theorem newS_K (W : World) : kFS.K W newS [.int .i64 1, .string ⟨#[120]⟩, .int .i64 0, .int .i64 0, .slice none 0 0, .int .i64 1, .string ⟨#[]⟩, .int .i64 0, .slice none 0 0, .slice none 0 0, .slice none 0 0, .slice none 0 0] := kFS_mk12 W newS (A4 := none) (c4 := 0) (Nat.le_refl 0) (Kd.C_nil _ _) (A8 := none) (c8 := 0) (Nat.le_refl 0) (Kd.C_nil _ _) (A9 := none) (c9 := 0) (Nat.le_refl 0) (Kd.C_nil _ _) (A6 := none) (c6 := 0) (Nat.le_refl 0) (Kd.C_nil _ _) (A7 := none) (c7 := 0) (Nat.le_refl 0) (Kd.C_nil _ _)
theorem kC_of_block {w W W' : World} {ag : Addr} {csA : Array Value} {t : TypeId} {l : List FF} (hz : ag = ⟨ag.block, 0, none⟩) (hC : (kRead w kFF).C W (some ag) l.length l) (h : W.heap[ag.block]? = some (.cells csA t (0, 0))) (h' : W'.heap[ag.block]? = some (.cells csA t (0, 0))) : (kRead w kFF).C W' (some ag) l.length l :=
  ⟨hC.1, hC.2.1, fun hn => by
    obtain ⟨ad, e, hh⟩ := hC.2.2 hn
    injection e with e
    subst e
    refine ⟨ag, rfl, fun j q hj => ?_⟩
    obtain ⟨cs, k1, k2, k3⟩ := hh j q hj
    refine ⟨cs, k1, k2, fun i u hu => ?_⟩
    have := k3 i u hu
    rw [add_zeroed hz, blk_cell h] at this
    rw [add_zeroed hz, blk_cell h']
    exact this⟩

set_option maxHeartbeats 16000000 in
theorem boundAdds_calls (l : List FF) (hl : FlatSmall l) (h2 : ∀ f ∈ l, (f.body.length + 2) * 192 ≤ 140737488355328) (w : World) (A : Option Addr) (c : Nat) (hC : kFF.C w A l.length l) (hcap : l.length ≤ c) (hL : LaidR w) :
    Calls Tryz.prog 4 #[.agg #[.slice A l.length c]] w fun e w' => e = .returned (.bool true) ∧ Below w.heap.size w w' := by
  have HC := Aside0.mk hC
  have HL := Aside0.mk hL
  have HLM := Aside0.mk hl.len
  have hcost := fun (W : World) (hB : Below w.heap.size w W) => costF_calls l hl W A c (Kd.C_below hC hB)
  have hleast := fun (W : World) (hB : Below w.heap.size w W) => leastF_calls l hl W A c (Kd.C_below hC hB)
  unfold OfPost at hcost hleast
  cases hok : flatOk l with
  | false =>
    have he : errV l = 10 := by unfold errV; rw [hok]; rfl
    rw [he] at hcost hleast
    generalize costV true l = a at hcost
    generalize costV false l = b at hleast
    clear hok he hl h2 hC hL hcap
    go_enter Tryz.func4, Tryz.ntmps4
    go_wp2_with fail
    refine (lives_calls _ (HL.out.below (below_alloc (Below.refl _ w) _))).mono ?_
    rintro e w1 ⟨rfl, hb⟩
    have BX := Aside0.mk (below_blk (blk_new w (.cells #[.slice A l.length c] 24 (0, 0))) hb)
    have HB := Aside0.mk (below_step (below_alloc (Below.refl _ w) _) hb)
    clear hb
    have x0 := (blk_cell BX.out 0).trans rfl
    go_wp2_with fail
    refine (hcost _ HB.out).mono ?_
    rintro e w2 ⟨rfl, hb⟩
    replace BX := Aside0.mk (below_blk BX.out hb)
    replace HB := Aside0.mk (below_step HB.out hb)
    clear hb x0 hcost
    have x0 := (blk_cell BX.out 0).trans rfl
    go_wp2_with fail
    refine (hleast _ HB.out).mono ?_
    rintro e w3 ⟨rfl, hb⟩
    replace HB := Aside0.mk (below_step HB.out hb)
    clear hb x0 hleast BX
    go_wp2_with fail
    go_ret
    exact ⟨rfl, HB.out⟩
  | true =>
    have hpos := flat_pos hok
    obtain ⟨hok2, hlc⟩ := adds_law hok
    have hsm2 := addS_small hl h2 (l.length - 1) (by omega)
    have he : errV l = 0 := by unfold errV; rw [hok]; rfl
    have hva : ∀ mx, costV mx l = lastCost mx l := fun mx => by unfold costV; rw [hok]; rfl
    have hvb : ∀ mx, costV mx (l.set (l.length - 1) (addS (l.getD (l.length - 1) zFF))) = min (lastCost mx l + 1) 1073741824 := fun mx => by unfold costV; rw [hok2, if_pos rfl, hlc]
    have he2 : errV (l.set (l.length - 1) (addS (l.getD (l.length - 1) zFF))) = 0 := by unfold errV; rw [hok2]; rfl
    have hra := lastCost_ok true hl.body
    have hrb := lastCost_ok false hl.body
    obtain ⟨v, hv⟩ : ∃ v : Int, ((l.length - 1 : Nat) : Int) = v := ⟨_, rfl⟩
    have hvn : l.length - 1 = v.toNat := by omega
    rw [hvn] at hvb he2 hsm2
    have hcost2 := fun (W : World) (ag : Addr) (cg : Nat) (hC' : kFF.C W (some ag) l.length (l.set v.toNat (addS (l.getD v.toNat zFF)))) => costF_calls (l.set v.toNat (addS (l.getD v.toNat zFF))) hsm2 W (some ag) cg (by rw [List.length_set]; exact hC')
    have hleast2 := fun (W : World) (ag : Addr) (cg : Nat) (hC' : kFF.C W (some ag) l.length (l.set v.toNat (addS (l.getD v.toNat zFF)))) => leastF_calls (l.set v.toNat (addS (l.getD v.toNat zFF))) hsm2 W (some ag) cg (by rw [List.length_set]; exact hC')
    unfold OfPost at hcost2 hleast2
    rw [he, hva] at hcost hleast
    simp only [he2, hvb, List.length_set] at hcost2 hleast2
    generalize lastCost true l = a at hcost hcost2 hra
    generalize lastCost false l = b at hleast hleast2 hrb
    have hv0 : 0 ≤ v := by omega
    have hv1 : v < (l.length : Int) := by omega
    have hw1 : wrap64 ((l.length : Int) - 1) = v := by have := HLM.out; unfold wrap64; omega
    have hw2 : IntKind.i64.wrap ((l.length : Int) - 1) = v := by rw [wrapEq]; exact hw1
    have hwa : wrap64 (a + 1) = a + 1 := by unfold wrap64; omega
    have hwb : wrap64 (b + 1) = b + 1 := by unfold wrap64; omega
    have y0 : ((l.length : Int) == 0) = false := beq_eq_false_iff_ne.2 (by omega)
    have HX2 := Aside0.mk (h2 _ (getD_mem (show v.toNat < l.length by omega) zFF))
    have HU := Aside0.mk Tryz.underlying30
    have HUF := Aside0.mk Tryz.underlying22
    have HPOS := Aside0.mk hpos
    have HC2 := Aside0.mk hcost2
    have HL2 := Aside0.mk hleast2
    have HVN := Aside0.mk (show v.toNat < l.length by omega)
    clear hok hok2 hlc hsm2 he hva hvb he2 hra hrb hv hvn hcost2 hleast2 hl h2 hC hL hcap hpos
    go_enter Tryz.func4, Tryz.ntmps4
    go_wp2_with fail
    refine (lives_calls _ (HL.out.below (below_alloc (Below.refl _ w) _))).mono ?_
    rintro e w1 ⟨rfl, hb⟩
    have BX := Aside0.mk (below_blk (blk_new w (.cells #[.slice A l.length c] 24 (0, 0))) hb)
    have HB := Aside0.mk (below_step (below_alloc (Below.refl _ w) _) hb)
    clear hb
    have x0 := (blk_cell BX.out 0).trans rfl
    go_wp2_with fail
    refine (hcost _ HB.out).mono ?_
    rintro e w2 ⟨rfl, hb⟩
    replace BX := Aside0.mk (below_blk BX.out hb)
    replace HB := Aside0.mk (below_step HB.out hb)
    clear hb x0 hcost
    have x0 := (blk_cell BX.out 0).trans rfl
    go_wp2_with fail
    refine (hleast _ HB.out).mono ?_
    rintro e w3 ⟨rfl, hb⟩
    replace BX := Aside0.mk (below_blk BX.out hb)
    replace HB := Aside0.mk (below_step HB.out hb)
    clear hb x0 hleast
    have x0 := (blk_cell BX.out 0).trans rfl
    go_upto_region 11 with (first | (at_builtin; refine Kd.R_append_rows (kRead w kFF) (Rr := kFF.K w) (w0 := w) w.heap.size rfl _ _ 22 35 (.agg #[.slice none 0 0, .slice none 0 0, .int .i64 0, .slice none 0 0, .slice none 0 0, .slice none 0 0]) 128 rfl HUF.out infoFN rfl (by show 0 < 6; decide) (by omega) (.slice none 0 0) ([] : List FF) l A l.length c (fun _ => True) (fun _ => False) rfl rfl (Kd.R_nil _ _ _ _ _) (kRead_row HC.out HB.out) (fun _ _ h => h) (fun _ h => h.elim) (fun _ _ => trivial) HB.out HB.out.size (by have := HLM.out; simp only [List.length_nil]; omega) ?_; intro v1 w6 hr6 hb6 hg6 hat6; rw [List.nil_append] at hr6; obtain ⟨gA, cg, rfl, hge, hltA, csA, hbA⟩ := Kd.R_form hr6 HPOS.out; have hcA := (Kd.R_reads' hr6).2.2; obtain ⟨ag, hag⟩ : ∃ ag : Addr, (⟨gA, 0, none⟩ : Addr) = ag := ⟨_, rfl⟩; rw [hag] at hcA; have HZ := Aside0.mk (show ag = ⟨ag.block, 0, none⟩ by rw [← hag]); have BA := Aside0.mk (show w6.heap[ag.block]? = some (.cells csA 35 (0, 0)) by rw [← hag]; exact hbA); have LA := Aside0.mk (show w.heap.size ≤ ag.block by rw [← hag]; exact hge); have LA2 := Aside0.mk (show ag.block < w6.heap.size by rw [← hag]; exact hltA); rw [hag]; have HCA := Aside0.mk hcA; replace HB := Aside0.mk hb6; clear hr6 hb6 hg6 hat6 hcA hbA hge hltA hag x0 BX) | ((with_reducible refine gate_store (t := 24) (p := 7) rfl ?_); refine store_whole rfl rfl 24 _ _ rfl w6.heap.size _ 24 rfl (blk_new _ _) _ rfl rfl rfl (by simp [Value.oneCell']) ?_; intro w2 hb2 hg2; replace BA := Aside0.mk (blk_as BA.out hg2); replace HCA := Aside0.mk (Kd.C_below HCA.out (below_as (Below.refl _ _) hg2)); replace HB := Aside0.mk (below_as HB.out hg2); obtain ⟨g7, hq_⟩ : ∃ g_, g_ = w6.heap.size := ⟨_, rfl⟩; rw [← hq_] at hb2; rw [← hq_]; have N7 := Aside0.mk (show g7 ≠ ag.block by have := LA2.out; omega); have B7 := Aside0.mk hb2; clear hb2 hg2 hq_ LA2; have c7 := (blk_cell B7.out 0).trans rfl))
    obtain ⟨w9, hw9⟩ : ∃ W, W = w2 := ⟨_, rfl⟩
    rw [← hw9] at BA HCA HB B7 c7 ⊢
    clear hw9
    obtain ⟨ad_, cs, heq_, _, hK_, hcc⟩ := Kd.C_get HCA.out zFF v hv0 hv1
    injection heq_ with heq_
    subst heq_
    have hK : kFF.K w (l.getD v.toNat zFF) cs := hK_
    clear hK_
    have hK' := hK
    obtain ⟨eA0, ec0, eA1, ec1, eA3, ec3, eA4, ec4, eA5, ec5, rfl, l0, g0, l1, g1, l3, g3, l4, g4, l5, g5⟩ := kFF_open6 hK'
    have HK5 := Aside0.mk (show csA[v.toNat * 6 + 5]? = some (.slice eA5 (l.getD v.toNat zFF).body.length ec5) by have h := hcc 5 _ rfl; rw [add_zeroed HZ.out, blk_cell BA.out] at h; exact h)
    clear hcc hK hK'
    generalize hx : l.getD v.toNat zFF = x at *
    have HG := Aside0.mk (show _ ∧ _ ∧ _ ∧ _ ∧ _ ∧ _ ∧ _ ∧ _ ∧ _ from ⟨l0, g0, l1, g1, l3, g3, l4, g4, g5⟩)
    have HXE := Aside0.mk hx
    clear l0 g0 l1 g1 l3 g3 l4 g4 l5 g5 hx
    have k5 := at_off HZ.out BA.out HK5.out
    have k5a := fun (ob : Obj) => at_off HZ.out (blk_alloc BA.out ob) HK5.out
    have d7 := fun (ob : Obj) => (blk_cell (blk_alloc B7.out ob) 0).trans rfl
    go_cut [54] from 41 to 56 (fun s54 wx => ∃ Ab cb, s54 = .slice Ab (x.body.length + 1) cb ∧ Aside0 (kFF.C wx (some ag) l.length (l.set v.toNat (addS x))) ∧ Aside0 (Below w.heap.size w wx) ∧ Aside0 (wx.heap[g7]? = some (.cells #[.slice (some ag) l.length cg] 24 (0, 0))))
    case first =>
      refine wp_region_held_drew (S := fun w' => w'.cell? ⟨g7, 0, none⟩ = some (.slice (some ag) l.length cg)) (by kernel_rfl) ?_ (fun hHeld => ?_)
      · (try dsimp only); first | exact c7 | exact d7 _ | exact cn7 | exact dn7 _ | exact cx7 | exact cst _
      refine wpAnyH_take (i := 0) (oi := _) (v := ?_) (by simp only [List.getElem?_toArray, List.getElem?_cons_zero, List.getElem?_cons_succ]; rfl) (by kernel_rfl) (by kernel_rfl) (by kernel_rfl) (by exact fun _ _ _ h => h) (Or.inl ⟨by rfl, ?_⟩) (by assumption) ?_
      rotate_left
      · (intro w_ hSw_; (try dsimp only at hSw_); go_simp; try with_reducible rfl)
      try simp only [Act.put, List.setIfInBounds_toArray, List.set_cons_zero, List.set_cons_succ]
      refine wpAnyH_take (i := 1) (oi := _) (v := ?_) (by simp only [List.getElem?_toArray, List.getElem?_cons_zero, List.getElem?_cons_succ]; rfl) (by kernel_rfl) (by kernel_rfl) (by kernel_rfl) (by exact fun _ _ _ h => h) (Or.inl ⟨by rfl, ?_⟩) (by assumption) ?_
      rotate_left
      · (intro w_ hSw_; (try dsimp only at hSw_); go_simp; try with_reducible rfl)
      try simp only [Act.put, List.setIfInBounds_toArray, List.set_cons_zero, List.set_cons_succ]
      refine wpAnyH_take (i := 2) (oi := _) (v := ?_) (by simp only [List.getElem?_toArray, List.getElem?_cons_zero, List.getElem?_cons_succ]; rfl) (by kernel_rfl) (by kernel_rfl) (by kernel_rfl) (by exact fun _ _ _ h => h) (Or.inl ⟨by rfl, ?_⟩) (by assumption) ?_
      rotate_left
      · (intro w_ hSw_; (try dsimp only at hSw_); go_simp; try with_reducible rfl)
      try simp only [Act.put, List.setIfInBounds_toArray, List.set_cons_zero, List.set_cons_succ]
      refine wpAnyH_take (i := 3) (oi := _) (v := ?_) (by simp only [List.getElem?_toArray, List.getElem?_cons_zero, List.getElem?_cons_succ]; rfl) (by kernel_rfl) (by kernel_rfl) (by kernel_rfl) (by exact fun _ _ _ h => h) (Or.inl ⟨by rfl, ?_⟩) (by assumption) ?_
      rotate_left
      · (intro w_ hSw_; (try dsimp only at hSw_); go_simp; try with_reducible rfl)
      try simp only [Act.put, List.setIfInBounds_toArray, List.set_cons_zero, List.set_cons_succ]
      refine wpAnyH_take (i := 4) (oi := _) (v := ?_) (by simp only [List.getElem?_toArray, List.getElem?_cons_zero, List.getElem?_cons_succ]; rfl) (by kernel_rfl) (by kernel_rfl) (by kernel_rfl) (by exact fun _ _ _ h => h) (Or.inl ⟨by rfl, ?_⟩) (by assumption) ?_
      rotate_left
      · (intro w_ hSw_; (try dsimp only at hSw_); go_simp; try with_reducible rfl)
      try simp only [Act.put, List.setIfInBounds_toArray, List.set_cons_zero, List.set_cons_succ]
      refine wpAnyH_take (i := 5) (oi := _) (v := ?_) (by simp only [List.getElem?_toArray, List.getElem?_cons_zero, List.getElem?_cons_succ]; rfl) (by kernel_rfl) (by kernel_rfl) (by kernel_rfl) (by exact fun _ _ _ h => h) (Or.inl ⟨by rfl, ?_⟩) (by assumption) ?_
      rotate_left
      · (intro w_ hSw_; (try dsimp only at hSw_); go_simp; try with_reducible rfl)
      try simp only [Act.put, List.setIfInBounds_toArray, List.set_cons_zero, List.set_cons_succ]
      refine wpAnyH_take (i := 6) (oi := _) (v := ?_) (by simp only [List.getElem?_toArray, List.getElem?_cons_zero, List.getElem?_cons_succ]; rfl) (by kernel_rfl) (by kernel_rfl) (by kernel_rfl) (by exact fun _ _ _ h => h) (Or.inl ⟨by rfl, ?_⟩) (by assumption) ?_
      rotate_left
      · (intro w_ hSw_; (try dsimp only at hSw_); go_simp; try with_reducible rfl)
      try simp only [Act.put, List.setIfInBounds_toArray, List.set_cons_zero, List.set_cons_succ]
      refine wpAnyH_take (i := 7) (oi := _) (v := ?_) (by simp only [List.getElem?_toArray, List.getElem?_cons_zero, List.getElem?_cons_succ]; rfl) (by kernel_rfl) (by kernel_rfl) (by kernel_rfl) (by exact fun _ _ _ h => h) (Or.inl ⟨by rfl, ?_⟩) (by assumption) ?_
      rotate_left
      · (intro w_ hSw_; (try dsimp only at hSw_); go_simp; try with_reducible rfl)
      try simp only [Act.put, List.setIfInBounds_toArray, List.set_cons_zero, List.set_cons_succ]
      refine wpAnyH_take (i := 10) (oi := _) (v := ?_) (by simp only [List.getElem?_toArray, List.getElem?_cons_zero, List.getElem?_cons_succ]; rfl) (by kernel_rfl) (by kernel_rfl) (by kernel_rfl) (by exact fun _ _ _ h => h) (Or.inl ⟨by rfl, ?_⟩) (by assumption) ?_
      rotate_left
      · (intro w_ hSw_; (try dsimp only at hSw_); go_simp; try with_reducible rfl)
      try simp only [Act.put, List.setIfInBounds_toArray, List.set_cons_zero, List.set_cons_succ]
      refine wpAnyH_take (i := 11) (oi := _) (v := ?_) (by simp only [List.getElem?_toArray, List.getElem?_cons_zero, List.getElem?_cons_succ]; rfl) (by kernel_rfl) (by kernel_rfl) (by kernel_rfl) (by exact fun _ _ _ h => h) (Or.inl ⟨by rfl, ?_⟩) (by assumption) ?_
      rotate_left
      · (intro w_ hSw_; (try dsimp only at hSw_); go_simp; try with_reducible rfl)
      try simp only [Act.put, List.setIfInBounds_toArray, List.set_cons_zero, List.set_cons_succ]
      refine wpAnyH_ready (rs := [8, 12]) (by kernel_rfl) (by simp) ?_
      refine AllReadyH.cons (o := _) (by simp only [List.getElem?_toArray, List.getElem?_cons_zero, List.getElem?_cons_succ]; rfl) (fun K_ hK_ => ?_) ?_
      · go_simp
        refine hK_.out _ _ ?_ (fun hHeld => ?_)
        · (try dsimp only); first | exact c7 | exact d7 _ | exact cn7 | exact dn7 _ | exact cx7 | exact cst _
        clear hK_ K_
        try simp only [Act.put, List.setIfInBounds_toArray, List.set_cons_zero, List.set_cons_succ]
        refine wpAnyH_ready (rs := [9, 12]) (by kernel_rfl) (by simp) ?_
        refine AllReadyH.cons (o := _) (by simp only [List.getElem?_toArray, List.getElem?_cons_zero, List.getElem?_cons_succ]; rfl) (fun K_ hK_ => ?_) ?_
        · (refine Kd.R_append_rows_step (kRead w kFS) (Rr := kFS.K w) (w0 := w) w.heap.size (by rfl) (.const (.slice none 0 0)) (.tmp 49) 30 41 (.agg #[.int .i64 0, .string ⟨#[]⟩, .int .i64 0, .int .i64 0, .slice none 0 0, .int .i64 0, .string ⟨#[]⟩, .int .i64 0, .slice none 0 0, .slice none 0 0, .slice none 0 0, .slice none 0 0]) 192 rfl HU.out infoFSt rfl (by show 0 < 12; decide) (by omega) (.slice none 0 0) ([] : List FS) x.body eA5 x.body.length ec5 (fun k => k ≠ g7 ∧ k ≠ ag.block) (fun _ => False) (by rfl) (by rfl) (Kd.R_nil _ _ _ _ _) (kRead_row HG.out.2.2.2.2.2.2.2.2 (by repeat (first | exact HB.out | apply below_alloc | apply below_drew1))) (fun _ _ h => h) (fun _ h => h.elim) (fresh_ne2 (by first | exact B7.out | exact blk_at B7.out) (by first | exact BA.out | exact blk_at BA.out)) (by repeat (first | exact HB.out | apply below_alloc | apply below_drew1)) ((by repeat (first | exact HB.out | apply below_alloc | apply below_drew1)) : Below w.heap.size w _).size (by have := HX2.out; simp only [List.length_nil]; omega) ?_; intro v1 w10 ho_ hb_ hg_ hat_; have HO10 := Aside0.mk ho_; have HB10 := Aside0.mk hb_; have HG10 := Aside0.mk hg_; have B7n := Aside0.mk (grown_none hg_ rfl (by first | exact B7.out | exact blk_at B7.out)); have BAn := Aside0.mk (grown_none hg_ rfl (by first | exact BA.out | exact blk_at BA.out)); clear ho_ hb_ hg_ hat_; obtain ⟨Ao, co, rfl⟩ := Kd.R_slice HO10.out; have cn7 := (blk_cell B7n.out 0).trans rfl; have dn7 := fun (ob : Obj) => (blk_cell (blk_alloc B7n.out ob) 0).trans rfl)
          refine hK_.out _ _ ?_ (fun hHeld => ?_)
          · (try dsimp only); first | exact c7 | exact d7 _ | exact cn7 | exact dn7 _ | exact cx7 | exact cst _
          clear hK_ K_
          try simp only [Act.put, List.setIfInBounds_toArray, List.set_cons_zero, List.set_cons_succ]
          refine wpAnyH_ready (rs := [12]) (by kernel_rfl) (by simp) ?_
          refine AllReadyH.cons (o := _) (by simp only [List.getElem?_toArray, List.getElem?_cons_zero, List.getElem?_cons_succ]; rfl) (fun K_ hK_ => ?_) ?_
          · go_simp
            refine hK_.out _ _ ?_ (fun hHeld => ?_)
            · (try dsimp only); first | exact c7 | exact d7 _ | exact cn7 | exact dn7 _ | exact cx7 | exact cst _
            clear hK_ K_
            try simp only [Act.put, List.setIfInBounds_toArray, List.set_cons_zero, List.set_cons_succ]
            refine wpAnyH_ready (rs := [13]) (by kernel_rfl) (by simp) ?_
            refine AllReadyH.cons (o := _) (by simp only [List.getElem?_toArray, List.getElem?_cons_zero, List.getElem?_cons_succ]; rfl) (fun K_ hK_ => ?_) ?_
            · (refine Kd.R_append_rows_step (kRead w kFS) (Rr := kFS.K w) (w0 := w) w.heap.size (by rfl) (.tmp 50) (.tmp 53) 30 41 (.agg #[.int .i64 0, .string ⟨#[]⟩, .int .i64 0, .int .i64 0, .slice none 0 0, .int .i64 0, .string ⟨#[]⟩, .int .i64 0, .slice none 0 0, .slice none 0 0, .slice none 0 0, .slice none 0 0]) 192 rfl HU.out infoFSt rfl (by show 0 < 12; decide) (by omega) (.slice Ao (([] : List FS) ++ x.body).length co) (([] : List FS) ++ x.body) [newS] (some ⟨w10.heap.size, 0, none⟩) 1 1 (fun k => k ≠ g7 ∧ k ≠ ag.block) (fun _ => False) (by rfl) (by rfl) (Kd.R_below HO10.out (below_alloc (Below.refl _ _) _)) (lit_one (d := kRead w kFS) (blk_new w10 _) (newS_K w)) (fun _ _ h => h) (fun _ h => h.elim) (fresh_ne2 (blk_at B7n.out) (blk_at BAn.out)) (below_al HB10.out) ((below_al HB10.out) : Below w.heap.size w _).size (by have := HX2.out; simp only [List.nil_append]; omega) ?_; intro v2 w11 ho_ hb_ hg_ hat_; have HO11 := Aside0.mk ho_; have HB11 := Aside0.mk hb_; have B7x := Aside0.mk (grown_ok2 (Kd.R_below HO10.out (below_alloc (Below.refl _ _) _)) hg_ (blk_at B7n.out) (.inl rfl)); have BAx := Aside0.mk (grown_ok2 (Kd.R_below HO10.out (below_alloc (Below.refl _ _) _)) hg_ (blk_at BAn.out) (.inr rfl)); clear ho_ hb_ hg_ hat_; obtain ⟨A2, c2_, hv2⟩ := Kd.R_slice HO11.out; rw [show ((([] : List FS) ++ x.body) ++ [newS]).length = x.body.length + 1 by simp] at hv2; subst hv2; have cx7 := (blk_cell B7x.out 0).trans rfl; have cst := fun (u : Value) => (blk_cell (blk_far B7x.out (p := ⟨(ag.add (v.toNat * 6)).block, (ag.add (v.toNat * 6)).off + 5, none⟩) (by show g7 ≠ (ag.add (v.toNat * 6)).block; rw [add_block HZ.out]; exact N7.out) u) 0).trans rfl; have k11 := at_off HZ.out BAx.out HK5.out; have f11 := at_frozen HZ.out BAx.out (v.toNat * 6) 5)
              refine hK_.out _ _ ?_ (fun hHeld => ?_)
              · (try dsimp only); first | exact c7 | exact d7 _ | exact cn7 | exact dn7 _ | exact cx7 | exact cst _
              clear hK_ K_
              try simp only [Act.put, List.setIfInBounds_toArray, List.set_cons_zero, List.set_cons_succ]
              refine wpAnyH_take (i := 14) (oi := _) (v := ?_) (by simp only [List.getElem?_toArray, List.getElem?_cons_zero, List.getElem?_cons_succ]; rfl) (by kernel_rfl) (by kernel_rfl) (by kernel_rfl) (by exact fun _ _ _ h => h) (Or.inl ⟨by rfl, ?_⟩) (by assumption) ?_
              rotate_left
              · (intro w_ hSw_; (try dsimp only at hSw_); go_simp; try with_reducible rfl)
              try simp only [Act.put, List.setIfInBounds_toArray, List.set_cons_zero, List.set_cons_succ]
              refine wpAnyH_take (i := 15) (oi := _) (v := ?_) (by simp only [List.getElem?_toArray, List.getElem?_cons_zero, List.getElem?_cons_succ]; rfl) (by kernel_rfl) (by kernel_rfl) (by kernel_rfl) (by exact fun _ _ _ h => h) (Or.inl ⟨by rfl, ?_⟩) (by assumption) ?_
              rotate_left
              · (intro w_ hSw_; (try dsimp only at hSw_); go_simp; try with_reducible rfl)
              try simp only [Act.put, List.setIfInBounds_toArray, List.set_cons_zero, List.set_cons_succ]
              refine wpAnyH_ready (rs := [16]) (by kernel_rfl) (by simp) ?_
              refine AllReadyH.cons (o := _) (by simp only [List.getElem?_toArray, List.getElem?_cons_zero, List.getElem?_cons_succ]; rfl) (fun K_ hK_ => ?_) ?_
              · go_simp
                refine hK_.out _ _ ?_ (fun hHeld => ?_)
                · (try dsimp only); first | exact c7 | exact d7 _ | exact cn7 | exact dn7 _ | exact cx7 | exact cst _
                clear hK_ K_
                try simp only [Act.put, List.setIfInBounds_toArray, List.set_cons_zero, List.set_cons_succ]
                refine wpAnyH_done (by kernel_rfl) ?_ _
                go_wp2_with fail
                go_meet
                case rel =>
                  have hbk : (ag.add (v.toNat * 6)).block = ag.block := add_block HZ.out _
                  have HBf : Below w.heap.size w (w11.setCell ⟨(ag.add (v.toNat * 6)).block, (ag.add (v.toNat * 6)).off + 5, none⟩ (.slice A2 (x.body.length + 1) c2_)) := HB11.out.setCell (p := ⟨(ag.add (v.toNat * 6)).block, (ag.add (v.toNat * 6)).off + 5, none⟩) (by show w.heap.size ≤ (ag.add (v.toNat * 6)).block; rw [hbk]; exact LA.out) _
                  have HRf := Kd.R_step HO11.out (w1 := w11.setCell ⟨(ag.add (v.toNat * 6)).block, (ag.add (v.toNat * 6)).off + 5, none⟩ (.slice A2 (x.body.length + 1) c2_)) (fun k hk _ => Below.heap_setCell w11 _ _ k (by show k ≠ (ag.add (v.toNat * 6)).block; rw [hbk]; exact hk.2))
                  have hrow := Kd.R_reads' HRf
                  have hC5 := kRead_C hrow.2.2 HBf
                  have hcap5 := hrow.2.1
                  rw [List.nil_append] at hC5
                  refine ⟨A2, c2_, rfl, ⟨?_⟩, ⟨HBf⟩, ⟨blk_far B7x.out (p := ⟨(ag.add (v.toNat * 6)).block, (ag.add (v.toNat * 6)).off + 5, none⟩) (by show g7 ≠ (ag.add (v.toNat * 6)).block; rw [hbk]; exact N7.out) _⟩⟩
                  refine row_set HZ.out BAx.out (kC_of_block HZ.out HCA.out BA.out BAx.out) HVN.out HBf ?_
                  intro cs hK _
                  rw [HXE.out] at hK
                  obtain ⟨A0, c0, A1, c1, A3, c3, A4, c4, A5, c5, rfl, l0, g0, l1, g1, l3, g3, l4, g4, _, _⟩ := kFF_open6 hK
                  have hlen : (addS x).body.length = x.body.length + 1 := by unfold addS; rw [List.length_append]; rfl
                  have := kFF_mk6 (w11.setCell ⟨(ag.add (v.toNat * 6)).block, (ag.add (v.toNat * 6)).off + 5, none⟩ (.slice A2 (x.body.length + 1) c2_)) (addS x) l0 (Kd.C_below g0 HBf) l1 (Kd.C_below g1 HBf) l3 (Kd.C_below g3 HBf) l4 (Kd.C_below g4 HBf) (c5 := c2_) (by rw [hlen]; exact hcap5) hC5
                  rw [hlen] at this
                  exact this
              exact AllReadyH.nil
            exact AllReadyH.nil
          exact AllReadyH.nil
        refine AllReadyH.cons (o := _) (by simp only [List.getElem?_toArray, List.getElem?_cons_zero, List.getElem?_cons_succ]; rfl) (fun K_ hK_ => ?_) ?_
        · go_simp
          refine hK_.out _ _ ?_ (fun hHeld => ?_)
          · (try dsimp only); first | exact c7 | exact d7 _ | exact cn7 | exact dn7 _ | exact cx7 | exact cst _
          clear hK_ K_
          try simp only [Act.put, List.setIfInBounds_toArray, List.set_cons_zero, List.set_cons_succ]
          refine wpAnyH_ready (rs := [9]) (by kernel_rfl) (by simp) ?_
          refine AllReadyH.cons (o := _) (by simp only [List.getElem?_toArray, List.getElem?_cons_zero, List.getElem?_cons_succ]; rfl) (fun K_ hK_ => ?_) ?_
          · (refine Kd.R_append_rows_step (kRead w kFS) (Rr := kFS.K w) (w0 := w) w.heap.size (by rfl) (.const (.slice none 0 0)) (.tmp 49) 30 41 (.agg #[.int .i64 0, .string ⟨#[]⟩, .int .i64 0, .int .i64 0, .slice none 0 0, .int .i64 0, .string ⟨#[]⟩, .int .i64 0, .slice none 0 0, .slice none 0 0, .slice none 0 0, .slice none 0 0]) 192 rfl HU.out infoFSt rfl (by show 0 < 12; decide) (by omega) (.slice none 0 0) ([] : List FS) x.body eA5 x.body.length ec5 (fun k => k ≠ g7 ∧ k ≠ ag.block) (fun _ => False) (by rfl) (by rfl) (Kd.R_nil _ _ _ _ _) (kRead_row HG.out.2.2.2.2.2.2.2.2 (by repeat (first | exact HB.out | apply below_alloc | apply below_drew1))) (fun _ _ h => h) (fun _ h => h.elim) (fresh_ne2 (by first | exact B7.out | exact blk_at B7.out) (by first | exact BA.out | exact blk_at BA.out)) (by repeat (first | exact HB.out | apply below_alloc | apply below_drew1)) ((by repeat (first | exact HB.out | apply below_alloc | apply below_drew1)) : Below w.heap.size w _).size (by have := HX2.out; simp only [List.length_nil]; omega) ?_; intro v1 w10 ho_ hb_ hg_ hat_; have HO10 := Aside0.mk ho_; have HB10 := Aside0.mk hb_; have HG10 := Aside0.mk hg_; have B7n := Aside0.mk (grown_none hg_ rfl (by first | exact B7.out | exact blk_at B7.out)); have BAn := Aside0.mk (grown_none hg_ rfl (by first | exact BA.out | exact blk_at BA.out)); clear ho_ hb_ hg_ hat_; obtain ⟨Ao, co, rfl⟩ := Kd.R_slice HO10.out; have cn7 := (blk_cell B7n.out 0).trans rfl; have dn7 := fun (ob : Obj) => (blk_cell (blk_alloc B7n.out ob) 0).trans rfl)
            refine hK_.out _ _ ?_ (fun hHeld => ?_)
            · (try dsimp only); first | exact c7 | exact d7 _ | exact cn7 | exact dn7 _ | exact cx7 | exact cst _
            clear hK_ K_
            try simp only [Act.put, List.setIfInBounds_toArray, List.set_cons_zero, List.set_cons_succ]
            refine wpAnyH_ready (rs := [13]) (by kernel_rfl) (by simp) ?_
            refine AllReadyH.cons (o := _) (by simp only [List.getElem?_toArray, List.getElem?_cons_zero, List.getElem?_cons_succ]; rfl) (fun K_ hK_ => ?_) ?_
            · (refine Kd.R_append_rows_step (kRead w kFS) (Rr := kFS.K w) (w0 := w) w.heap.size (by rfl) (.tmp 50) (.tmp 53) 30 41 (.agg #[.int .i64 0, .string ⟨#[]⟩, .int .i64 0, .int .i64 0, .slice none 0 0, .int .i64 0, .string ⟨#[]⟩, .int .i64 0, .slice none 0 0, .slice none 0 0, .slice none 0 0, .slice none 0 0]) 192 rfl HU.out infoFSt rfl (by show 0 < 12; decide) (by omega) (.slice Ao (([] : List FS) ++ x.body).length co) (([] : List FS) ++ x.body) [newS] (some ⟨w9.heap.size, 0, none⟩) 1 1 (fun k => k ≠ g7 ∧ k ≠ ag.block) (fun _ => False) (by rfl) (by rfl) (HO10.out) (lit_one (d := kRead w kFS) (grown_none HG10.out rfl (blk_new w9.drew _)) (newS_K w)) (fun _ _ h => h) (fun _ h => h.elim) (fresh_ne2 (B7n.out) (BAn.out)) (HB10.out) ((HB10.out) : Below w.heap.size w _).size (by have := HX2.out; simp only [List.nil_append]; omega) ?_; intro v2 w11 ho_ hb_ hg_ hat_; have HO11 := Aside0.mk ho_; have HB11 := Aside0.mk hb_; have B7x := Aside0.mk (grown_ok2 (HO10.out) hg_ (B7n.out) (.inl rfl)); have BAx := Aside0.mk (grown_ok2 (HO10.out) hg_ (BAn.out) (.inr rfl)); clear ho_ hb_ hg_ hat_; obtain ⟨A2, c2_, hv2⟩ := Kd.R_slice HO11.out; rw [show ((([] : List FS) ++ x.body) ++ [newS]).length = x.body.length + 1 by simp] at hv2; subst hv2; have cx7 := (blk_cell B7x.out 0).trans rfl; have cst := fun (u : Value) => (blk_cell (blk_far B7x.out (p := ⟨(ag.add (v.toNat * 6)).block, (ag.add (v.toNat * 6)).off + 5, none⟩) (by show g7 ≠ (ag.add (v.toNat * 6)).block; rw [add_block HZ.out]; exact N7.out) u) 0).trans rfl; have k11 := at_off HZ.out BAx.out HK5.out; have f11 := at_frozen HZ.out BAx.out (v.toNat * 6) 5)
              refine hK_.out _ _ ?_ (fun hHeld => ?_)
              · (try dsimp only); first | exact c7 | exact d7 _ | exact cn7 | exact dn7 _ | exact cx7 | exact cst _
              clear hK_ K_
              try simp only [Act.put, List.setIfInBounds_toArray, List.set_cons_zero, List.set_cons_succ]
              refine wpAnyH_take (i := 14) (oi := _) (v := ?_) (by simp only [List.getElem?_toArray, List.getElem?_cons_zero, List.getElem?_cons_succ]; rfl) (by kernel_rfl) (by kernel_rfl) (by kernel_rfl) (by exact fun _ _ _ h => h) (Or.inl ⟨by rfl, ?_⟩) (by assumption) ?_
              rotate_left
              · (intro w_ hSw_; (try dsimp only at hSw_); go_simp; try with_reducible rfl)
              try simp only [Act.put, List.setIfInBounds_toArray, List.set_cons_zero, List.set_cons_succ]
              refine wpAnyH_take (i := 15) (oi := _) (v := ?_) (by simp only [List.getElem?_toArray, List.getElem?_cons_zero, List.getElem?_cons_succ]; rfl) (by kernel_rfl) (by kernel_rfl) (by kernel_rfl) (by exact fun _ _ _ h => h) (Or.inl ⟨by rfl, ?_⟩) (by assumption) ?_
              rotate_left
              · (intro w_ hSw_; (try dsimp only at hSw_); go_simp; try with_reducible rfl)
              try simp only [Act.put, List.setIfInBounds_toArray, List.set_cons_zero, List.set_cons_succ]
              refine wpAnyH_ready (rs := [16]) (by kernel_rfl) (by simp) ?_
              refine AllReadyH.cons (o := _) (by simp only [List.getElem?_toArray, List.getElem?_cons_zero, List.getElem?_cons_succ]; rfl) (fun K_ hK_ => ?_) ?_
              · go_simp
                refine hK_.out _ _ ?_ (fun hHeld => ?_)
                · (try dsimp only); first | exact c7 | exact d7 _ | exact cn7 | exact dn7 _ | exact cx7 | exact cst _
                clear hK_ K_
                try simp only [Act.put, List.setIfInBounds_toArray, List.set_cons_zero, List.set_cons_succ]
                refine wpAnyH_done (by kernel_rfl) ?_ _
                go_wp2_with fail
                go_meet
                case rel =>
                  have hbk : (ag.add (v.toNat * 6)).block = ag.block := add_block HZ.out _
                  have HBf : Below w.heap.size w (w11.setCell ⟨(ag.add (v.toNat * 6)).block, (ag.add (v.toNat * 6)).off + 5, none⟩ (.slice A2 (x.body.length + 1) c2_)) := HB11.out.setCell (p := ⟨(ag.add (v.toNat * 6)).block, (ag.add (v.toNat * 6)).off + 5, none⟩) (by show w.heap.size ≤ (ag.add (v.toNat * 6)).block; rw [hbk]; exact LA.out) _
                  have HRf := Kd.R_step HO11.out (w1 := w11.setCell ⟨(ag.add (v.toNat * 6)).block, (ag.add (v.toNat * 6)).off + 5, none⟩ (.slice A2 (x.body.length + 1) c2_)) (fun k hk _ => Below.heap_setCell w11 _ _ k (by show k ≠ (ag.add (v.toNat * 6)).block; rw [hbk]; exact hk.2))
                  have hrow := Kd.R_reads' HRf
                  have hC5 := kRead_C hrow.2.2 HBf
                  have hcap5 := hrow.2.1
                  rw [List.nil_append] at hC5
                  refine ⟨A2, c2_, rfl, ⟨?_⟩, ⟨HBf⟩, ⟨blk_far B7x.out (p := ⟨(ag.add (v.toNat * 6)).block, (ag.add (v.toNat * 6)).off + 5, none⟩) (by show g7 ≠ (ag.add (v.toNat * 6)).block; rw [hbk]; exact N7.out) _⟩⟩
                  refine row_set HZ.out BAx.out (kC_of_block HZ.out HCA.out BA.out BAx.out) HVN.out HBf ?_
                  intro cs hK _
                  rw [HXE.out] at hK
                  obtain ⟨A0, c0, A1, c1, A3, c3, A4, c4, A5, c5, rfl, l0, g0, l1, g1, l3, g3, l4, g4, _, _⟩ := kFF_open6 hK
                  have hlen : (addS x).body.length = x.body.length + 1 := by unfold addS; rw [List.length_append]; rfl
                  have := kFF_mk6 (w11.setCell ⟨(ag.add (v.toNat * 6)).block, (ag.add (v.toNat * 6)).off + 5, none⟩ (.slice A2 (x.body.length + 1) c2_)) (addS x) l0 (Kd.C_below g0 HBf) l1 (Kd.C_below g1 HBf) l3 (Kd.C_below g3 HBf) l4 (Kd.C_below g4 HBf) (c5 := c2_) (by rw [hlen]; exact hcap5) hC5
                  rw [hlen] at this
                  exact this
              exact AllReadyH.nil
            exact AllReadyH.nil
          exact AllReadyH.nil
        exact AllReadyH.nil
      refine AllReadyH.cons (o := _) (by simp only [List.getElem?_toArray, List.getElem?_cons_zero, List.getElem?_cons_succ]; rfl) (fun K_ hK_ => ?_) ?_
      · go_simp
        refine hK_.out _ _ ?_ (fun hHeld => ?_)
        · (try dsimp only); first | exact c7 | exact d7 _ | exact cn7 | exact dn7 _ | exact cx7 | exact cst _
        clear hK_ K_
        try simp only [Act.put, List.setIfInBounds_toArray, List.set_cons_zero, List.set_cons_succ]
        refine wpAnyH_ready (rs := [8]) (by kernel_rfl) (by simp) ?_
        refine AllReadyH.cons (o := _) (by simp only [List.getElem?_toArray, List.getElem?_cons_zero, List.getElem?_cons_succ]; rfl) (fun K_ hK_ => ?_) ?_
        · go_simp
          refine hK_.out _ _ ?_ (fun hHeld => ?_)
          · (try dsimp only); first | exact c7 | exact d7 _ | exact cn7 | exact dn7 _ | exact cx7 | exact cst _
          clear hK_ K_
          try simp only [Act.put, List.setIfInBounds_toArray, List.set_cons_zero, List.set_cons_succ]
          refine wpAnyH_ready (rs := [9]) (by kernel_rfl) (by simp) ?_
          refine AllReadyH.cons (o := _) (by simp only [List.getElem?_toArray, List.getElem?_cons_zero, List.getElem?_cons_succ]; rfl) (fun K_ hK_ => ?_) ?_
          · (refine Kd.R_append_rows_step (kRead w kFS) (Rr := kFS.K w) (w0 := w) w.heap.size (by rfl) (.const (.slice none 0 0)) (.tmp 49) 30 41 (.agg #[.int .i64 0, .string ⟨#[]⟩, .int .i64 0, .int .i64 0, .slice none 0 0, .int .i64 0, .string ⟨#[]⟩, .int .i64 0, .slice none 0 0, .slice none 0 0, .slice none 0 0, .slice none 0 0]) 192 rfl HU.out infoFSt rfl (by show 0 < 12; decide) (by omega) (.slice none 0 0) ([] : List FS) x.body eA5 x.body.length ec5 (fun k => k ≠ g7 ∧ k ≠ ag.block) (fun _ => False) (by rfl) (by rfl) (Kd.R_nil _ _ _ _ _) (kRead_row HG.out.2.2.2.2.2.2.2.2 (by repeat (first | exact HB.out | apply below_alloc | apply below_drew1))) (fun _ _ h => h) (fun _ h => h.elim) (fresh_ne2 (by first | exact B7.out | exact blk_at B7.out) (by first | exact BA.out | exact blk_at BA.out)) (by repeat (first | exact HB.out | apply below_alloc | apply below_drew1)) ((by repeat (first | exact HB.out | apply below_alloc | apply below_drew1)) : Below w.heap.size w _).size (by have := HX2.out; simp only [List.length_nil]; omega) ?_; intro v1 w10 ho_ hb_ hg_ hat_; have HO10 := Aside0.mk ho_; have HB10 := Aside0.mk hb_; have HG10 := Aside0.mk hg_; have B7n := Aside0.mk (grown_none hg_ rfl (by first | exact B7.out | exact blk_at B7.out)); have BAn := Aside0.mk (grown_none hg_ rfl (by first | exact BA.out | exact blk_at BA.out)); clear ho_ hb_ hg_ hat_; obtain ⟨Ao, co, rfl⟩ := Kd.R_slice HO10.out; have cn7 := (blk_cell B7n.out 0).trans rfl; have dn7 := fun (ob : Obj) => (blk_cell (blk_alloc B7n.out ob) 0).trans rfl)
            refine hK_.out _ _ ?_ (fun hHeld => ?_)
            · (try dsimp only); first | exact c7 | exact d7 _ | exact cn7 | exact dn7 _ | exact cx7 | exact cst _
            clear hK_ K_
            try simp only [Act.put, List.setIfInBounds_toArray, List.set_cons_zero, List.set_cons_succ]
            refine wpAnyH_ready (rs := [13]) (by kernel_rfl) (by simp) ?_
            refine AllReadyH.cons (o := _) (by simp only [List.getElem?_toArray, List.getElem?_cons_zero, List.getElem?_cons_succ]; rfl) (fun K_ hK_ => ?_) ?_
            · (refine Kd.R_append_rows_step (kRead w kFS) (Rr := kFS.K w) (w0 := w) w.heap.size (by rfl) (.tmp 50) (.tmp 53) 30 41 (.agg #[.int .i64 0, .string ⟨#[]⟩, .int .i64 0, .int .i64 0, .slice none 0 0, .int .i64 0, .string ⟨#[]⟩, .int .i64 0, .slice none 0 0, .slice none 0 0, .slice none 0 0, .slice none 0 0]) 192 rfl HU.out infoFSt rfl (by show 0 < 12; decide) (by omega) (.slice Ao (([] : List FS) ++ x.body).length co) (([] : List FS) ++ x.body) [newS] (some ⟨w9.heap.size, 0, none⟩) 1 1 (fun k => k ≠ g7 ∧ k ≠ ag.block) (fun _ => False) (by rfl) (by rfl) (HO10.out) (lit_one (d := kRead w kFS) (grown_none HG10.out rfl (blk_new w9.drew _)) (newS_K w)) (fun _ _ h => h) (fun _ h => h.elim) (fresh_ne2 (B7n.out) (BAn.out)) (HB10.out) ((HB10.out) : Below w.heap.size w _).size (by have := HX2.out; simp only [List.nil_append]; omega) ?_; intro v2 w11 ho_ hb_ hg_ hat_; have HO11 := Aside0.mk ho_; have HB11 := Aside0.mk hb_; have B7x := Aside0.mk (grown_ok2 (HO10.out) hg_ (B7n.out) (.inl rfl)); have BAx := Aside0.mk (grown_ok2 (HO10.out) hg_ (BAn.out) (.inr rfl)); clear ho_ hb_ hg_ hat_; obtain ⟨A2, c2_, hv2⟩ := Kd.R_slice HO11.out; rw [show ((([] : List FS) ++ x.body) ++ [newS]).length = x.body.length + 1 by simp] at hv2; subst hv2; have cx7 := (blk_cell B7x.out 0).trans rfl; have cst := fun (u : Value) => (blk_cell (blk_far B7x.out (p := ⟨(ag.add (v.toNat * 6)).block, (ag.add (v.toNat * 6)).off + 5, none⟩) (by show g7 ≠ (ag.add (v.toNat * 6)).block; rw [add_block HZ.out]; exact N7.out) u) 0).trans rfl; have k11 := at_off HZ.out BAx.out HK5.out; have f11 := at_frozen HZ.out BAx.out (v.toNat * 6) 5)
              refine hK_.out _ _ ?_ (fun hHeld => ?_)
              · (try dsimp only); first | exact c7 | exact d7 _ | exact cn7 | exact dn7 _ | exact cx7 | exact cst _
              clear hK_ K_
              try simp only [Act.put, List.setIfInBounds_toArray, List.set_cons_zero, List.set_cons_succ]
              refine wpAnyH_take (i := 14) (oi := _) (v := ?_) (by simp only [List.getElem?_toArray, List.getElem?_cons_zero, List.getElem?_cons_succ]; rfl) (by kernel_rfl) (by kernel_rfl) (by kernel_rfl) (by exact fun _ _ _ h => h) (Or.inl ⟨by rfl, ?_⟩) (by assumption) ?_
              rotate_left
              · (intro w_ hSw_; (try dsimp only at hSw_); go_simp; try with_reducible rfl)
              try simp only [Act.put, List.setIfInBounds_toArray, List.set_cons_zero, List.set_cons_succ]
              refine wpAnyH_take (i := 15) (oi := _) (v := ?_) (by simp only [List.getElem?_toArray, List.getElem?_cons_zero, List.getElem?_cons_succ]; rfl) (by kernel_rfl) (by kernel_rfl) (by kernel_rfl) (by exact fun _ _ _ h => h) (Or.inl ⟨by rfl, ?_⟩) (by assumption) ?_
              rotate_left
              · (intro w_ hSw_; (try dsimp only at hSw_); go_simp; try with_reducible rfl)
              try simp only [Act.put, List.setIfInBounds_toArray, List.set_cons_zero, List.set_cons_succ]
              refine wpAnyH_ready (rs := [16]) (by kernel_rfl) (by simp) ?_
              refine AllReadyH.cons (o := _) (by simp only [List.getElem?_toArray, List.getElem?_cons_zero, List.getElem?_cons_succ]; rfl) (fun K_ hK_ => ?_) ?_
              · go_simp
                refine hK_.out _ _ ?_ (fun hHeld => ?_)
                · (try dsimp only); first | exact c7 | exact d7 _ | exact cn7 | exact dn7 _ | exact cx7 | exact cst _
                clear hK_ K_
                try simp only [Act.put, List.setIfInBounds_toArray, List.set_cons_zero, List.set_cons_succ]
                refine wpAnyH_done (by kernel_rfl) ?_ _
                go_wp2_with fail
                go_meet
                case rel =>
                  have hbk : (ag.add (v.toNat * 6)).block = ag.block := add_block HZ.out _
                  have HBf : Below w.heap.size w (w11.setCell ⟨(ag.add (v.toNat * 6)).block, (ag.add (v.toNat * 6)).off + 5, none⟩ (.slice A2 (x.body.length + 1) c2_)) := HB11.out.setCell (p := ⟨(ag.add (v.toNat * 6)).block, (ag.add (v.toNat * 6)).off + 5, none⟩) (by show w.heap.size ≤ (ag.add (v.toNat * 6)).block; rw [hbk]; exact LA.out) _
                  have HRf := Kd.R_step HO11.out (w1 := w11.setCell ⟨(ag.add (v.toNat * 6)).block, (ag.add (v.toNat * 6)).off + 5, none⟩ (.slice A2 (x.body.length + 1) c2_)) (fun k hk _ => Below.heap_setCell w11 _ _ k (by show k ≠ (ag.add (v.toNat * 6)).block; rw [hbk]; exact hk.2))
                  have hrow := Kd.R_reads' HRf
                  have hC5 := kRead_C hrow.2.2 HBf
                  have hcap5 := hrow.2.1
                  rw [List.nil_append] at hC5
                  refine ⟨A2, c2_, rfl, ⟨?_⟩, ⟨HBf⟩, ⟨blk_far B7x.out (p := ⟨(ag.add (v.toNat * 6)).block, (ag.add (v.toNat * 6)).off + 5, none⟩) (by show g7 ≠ (ag.add (v.toNat * 6)).block; rw [hbk]; exact N7.out) _⟩⟩
                  refine row_set HZ.out BAx.out (kC_of_block HZ.out HCA.out BA.out BAx.out) HVN.out HBf ?_
                  intro cs hK _
                  rw [HXE.out] at hK
                  obtain ⟨A0, c0, A1, c1, A3, c3, A4, c4, A5, c5, rfl, l0, g0, l1, g1, l3, g3, l4, g4, _, _⟩ := kFF_open6 hK
                  have hlen : (addS x).body.length = x.body.length + 1 := by unfold addS; rw [List.length_append]; rfl
                  have := kFF_mk6 (w11.setCell ⟨(ag.add (v.toNat * 6)).block, (ag.add (v.toNat * 6)).off + 5, none⟩ (.slice A2 (x.body.length + 1) c2_)) (addS x) l0 (Kd.C_below g0 HBf) l1 (Kd.C_below g1 HBf) l3 (Kd.C_below g3 HBf) l4 (Kd.C_below g4 HBf) (c5 := c2_) (by rw [hlen]; exact hcap5) hC5
                  rw [hlen] at this
                  exact this
              exact AllReadyH.nil
            exact AllReadyH.nil
          exact AllReadyH.nil
        exact AllReadyH.nil
      exact AllReadyH.nil
    case rest =>
    clear k5 k5a d7 c7 BA HCA HB B7 HK5 HG
    obtain ⟨Ab, cb, rfl, HCN, HB, B7⟩ := hcut
    have c7 := (blk_cell B7.out 0).trans rfl
    go_wp2_with fail
    refine (HC2.out _ ag cg HCN.out).mono ?_
    rintro e w12 ⟨rfl, hb⟩
    replace HCN := Aside0.mk (Kd.C_below HCN.out hb)
    replace B7 := Aside0.mk (below_blk B7.out hb)
    replace HB := Aside0.mk (below_step HB.out hb)
    clear hb c7 HC2
    have c7 := (blk_cell B7.out 0).trans rfl
    go_wp2_with fail
    refine (HL2.out _ ag cg HCN.out).mono ?_
    rintro e w13 ⟨rfl, hb⟩
    replace HB := Aside0.mk (below_step HB.out hb)
    clear hb c7 HL2 HCN B7
    go_wp2_with fail
    go_ret
    exact ⟨by simp, HB.out⟩

end Go.Proofs.YticndoihkfbpoaaGreatDoor
