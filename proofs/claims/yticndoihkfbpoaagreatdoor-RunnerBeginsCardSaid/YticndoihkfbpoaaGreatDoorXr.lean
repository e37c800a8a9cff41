/- The walk of RunnerBegins. -/
import Derived.Deep.CutRange
import Derived.Test.YticndoihkfbpoaaGreatDoorXp
import Derived.Test.YticndoihkfbpoaaGreatDoorWOne
namespace Go.Proofs.YticndoihkfbpoaaGreatDoor
open Go Go.RowKit Go.Lib Go.Proofs.YticndoihkfbpoaaGreatDoorW.PrintWords Go.Proofs.YticndoihkfbpoaaGreatDoor.PScope
set_option maxRecDepth 100000
set_option linter.unusedSimpArgs false
set_option linter.unusedVariables false
attribute [local irreducible] wpStill

theorem RAt.grown {w0 w w' : World} {g : Nat} {ma : Addr} {A : Option Addr} {c : Nat} {l : List FF} {N : Nat} {m : List Cl} {tr : Bool} {cn : Int} (h : RAt w0 w g ma A c l N m tr cn) {row : Option Nat} (hg : w.grownBy w' row) (hr : ∀ k, row = some k → g < k ∧ ma.block < k ∧ w0.heap.size ≤ k) : RAt w0 w' g ma A c l N m tr cn :=
  ⟨(hg.block g (blk_lt h.blk) (fun e => by have := hr g e.symm; omega)).trans h.blk, ⟨h.mem.1, (hg.block ma.block (blk_lt h.mem.2) (fun e => by have := hr _ e.symm; omega)).trans h.mem.2⟩, h.len, h.few, h.hg, h.hb, h.ne, pw_below_grown h.below _ h.below.size hg (fun k hk => (hr k hk).2.2)⟩
theorem ints_lt {W : World} {A : Option Addr} {xs : List Int} (h : (Kd.int .i64).C W A xs.length xs) (ad : Addr) (e : A = some ad) (hne : xs ≠ []) : ad.block < W.heap.size := by
  have hl : 0 < xs.length := List.length_pos_iff.2 hne
  obtain ⟨ad', cs, e1, _, hk, hcc⟩ := Kd.C_get h (0 : Int) 0 (by omega) (by omega)
  obtain rfl := hk
  rw [e] at e1
  injection e1 with e1
  subst e1
  have hq : (ad.add ((0 : Int).toNat * (Kd.int .i64).sz + 0)).block = ad.block := by unfold Addr.add; split <;> rfl
  have := World.block_lt_of_cell? W _ (hcc 0 _ rfl)
  omega
theorem info_rI : (Tryz.prog.info? 49).map (fun i => (i.zero, i.size, i.bytes)) = some (some (.slice none 0 0), 1, 24) := by kernel_rfl
theorem info_rE : (Tryz.prog.info? 26).map (fun i => (i.zero, i.size, i.bytes)) = some (some (.int .i64 0), 1, 8) := by kernel_rfl
theorem range_get (n k : Nat) (h : k < n) (f : Nat → Int) : ((List.range n).map f).getD k 0 = f k := by
  rw [List.getD_eq_getElem?_getD, List.getElem?_map, List.getElem?_range h]; rfl
theorem snoc_lt (us : List Value) (u : Value) (k : Nat) (h : k < us.length) : (us ++ [u]).getD k undef = us.getD k undef := by
  rw [List.getD_eq_getElem?_getD, List.getD_eq_getElem?_getD, List.getElem?_append_left h]
theorem snoc_eq (us : List Value) (u : Value) (k : Nat) (h : us.length = k) : (us ++ [u]).getD k undef = u := by
  rw [List.getD_eq_getElem?_getD, List.getElem?_append_right (by omega), show k - us.length = 0 by omega]; rfl
theorem map_get (us : List Value) (k : Nat) (h : k < us.length) : (us.map (fun u => [u])).getD k [] = [us.getD k undef] := by
  rw [List.getD_eq_getElem?_getD, List.getElem?_map, List.getElem?_eq_getElem h, List.getD_eq_getElem?_getD, List.getElem?_eq_getElem h]; rfl
set_option maxHeartbeats 8000000 in
theorem runnerBegins_calls (l : List FF) (hl : FlatSmall l) (hfw : ∀ f ∈ l, f.params.length ≤ 8796093022208) (hfr : ∀ f ∈ l, f.results.length ≤ 8796093022208) (w : World) (A : Option Addr) (c : Nat) (hC : kFF.C w A l.length l) (script : List (List Int)) (B : Option Addr) (cB : Nat) (hS : Kd.C (Kd.slice 2 (Kd.int .i64)) w B script.length script) (hL : LaidR w) :
    Calls Tryz.prog 6 #[.agg #[.slice A l.length c], .slice B script.length cB] w fun e w' => e = .returned (.bool true) ∧ Below w.heap.size w w' := by
  have HLS := Aside0.mk hl; have HFW := Aside0.mk hfw; have HFR := Aside0.mk hfr
  have hba := below_alloc (Below.refl w.heap.size w) (.cells #[.slice A l.length c] 24)
  have BX := Aside0.mk (blk_new w (.cells #[.slice A l.length c] 24))
  have hlv := rlives_calls _ (hL.below hba)
  have HC := Aside0.mk (Kd.C_below hC hba); have HS := Aside0.mk (Kd.C_below hS hba); have HB := Aside0.mk hba
  have hsm : script.length ≤ 9223372036854775807 := hS.2.1
  clear hl hfw hfr hC hS hL hba
  go_enter Tryz.func6, Tryz.ntmps6
  go_wp2_with fail
  obtain ⟨gx, hgx⟩ : ∃ gx, w.heap.size = gx := ⟨_, rfl⟩
  rw [hgx] at BX ⊢
  clear hgx
  refine hlv.mono ?_
  rintro e w1 ⟨rfl, hb⟩
  replace BX := Aside0.mk (below_blk BX.out hb); replace HC := Aside0.mk (Kd.C_below HC.out hb); replace HS := Aside0.mk (Kd.C_below HS.out hb); replace HB := Aside0.mk (below_step HB.out hb)
  clear hb hlv
  have bx0 := (blk_cell BX.out 0).trans rfl
  go_wp2_with fail
  refine (new_calls l HLS.out w1 A c HC.out).mono ?_
  clear bx0 BX
  intro e w3 hp
  unfold NewPost at hp
  rcases hp with ⟨hne, rfl, hb⟩ | ⟨h0, g, ma, rfl, hR⟩
  · obtain ⟨er, her⟩ : ∃ er, newErr l = er := ⟨_, rfl⟩
    rw [her] at hne ⊢
    have d : (er != (0 : Int)) = true := by rw [bne, beq_eq_false_iff_ne.2 hne]; rfl
    have HB3 := Aside0.mk (below_step HB.out hb)
    clear hne her hb
    go_wp2_with fail
    go_ret
    exact ⟨rfl, HB3.out⟩
  have HOK := Aside0.mk (newOk h0)
  have HBG := Aside0.mk (fun (m : List Cl) (h : m.length = cellsN l) => begun_any (flat_pos HOK.out) h)
  clear h0
  obtain ⟨N, hN⟩ : ∃ N, cellsN l = N := ⟨_, rfl⟩
  obtain ⟨m0, hm0⟩ : ∃ m0, begunM l (List.replicate N (0, false)) = m0 := ⟨_, rfl⟩
  rw [hN] at hR HBG
  rw [hm0] at hR HBG
  have HN := Aside0.mk hN
  clear hN hm0
  have HR := Aside0.mk hR
  clear hR
  go_wp2_with fail
  refine (rdefined_calls HR.out).mono ?_
  rintro e w4 ⟨rfl, hb⟩
  replace HR := Aside0.mk (HR.out.below' hb)
  have LG := Aside0.mk (show g < w4.heap.size ∧ ma.block < w4.heap.size ∧ w1.heap.size ≤ w4.heap.size from ⟨blk_lt HR.out.blk, blk_lt HR.out.mem.2, HR.out.below.size⟩)
  clear hb
  obtain ⟨b0, hb0⟩ : ∃ b, w4.heap.size = b := ⟨_, rfl⟩
  rw [hb0] at LG
  have HB0 := Aside0.mk (Nat.le_of_eq hb0.symm)
  clear hb0
  have HU8 := Aside0.mk Tryz.underlying42
  have HU9 := Aside0.mk Tryz.underlying58
  have H8 := Aside0.mk (Kd.R_nil (Kd.raw 1) 49 w4 b0 (fun _ => True))
  have H9 := Aside0.mk (Kd.R_nil (Kd.int .i64) 26 w4 b0 (fun _ => True))
  go_wp2_with fail
  go_loopg [8, 9, 10] script.length (fun gg s8 s9 s10 wr => ∃ (kk : Nat) (v8 v9 : Value) (us : List Value), kk ≤ script.length ∧ kk ≤ 20 ∧ script.length - kk ≤ gg ∧ s10 = .int .i64 kk ∧ s8 = v8 ∧ s9 = v9 ∧ us.length = kk ∧ Aside0 (b0 ≤ wr.heap.size) ∧ Aside0 (RAt w1 wr g ma A c l N (stK l N m0 script kk).1 (stK l N m0 script kk).2.1 (stK l N m0 script kk).2.2) ∧ Aside0 ((Kd.raw 1).R 49 wr b0 (fun _ => True) v8 (us.map (fun u => [u]))) ∧ Aside0 ((Kd.int .i64).R 26 wr b0 (fun _ => True) v9 ((List.range kk).map (fun k => (outK l N m0 script k).2))) ∧ Aside0 (∀ k, k < kk → Held wr g ma v8 v9 (us.getD k undef) (outK l N m0 script k).1))
  case atStart => exact ⟨0, _, _, [], Nat.zero_le _, Nat.zero_le _, by omega, rfl, rfl, rfl, rfl, HB0, HR, H8, H9, ⟨fun k hk => absurd hk (Nat.not_lt_zero _)⟩⟩
  case round =>
    clear HR H8 H9 HB0
    obtain ⟨kk, v8, v9, us, hkk, hk20, hgk, rfl, h8e, h9e, hus, HB0, HR, H8, H9, HH⟩ := hrel
    replace h8e := h8e.symm
    replace h9e := h9e.symm
    subst h8e
    subst h9e
    obtain ⟨A8, c8, hv8⟩ := Kd.R_slice H8.out
    obtain ⟨A9, c9, hv9⟩ := Kd.R_slice H9.out
    rw [List.length_map, hus] at hv8
    rw [List.length_map, List.length_range] at hv9
    subst hv8
    subst hv9
    go_upto_region 10 with fail
    go_cut [36] from 29 to 36 (fun s36 wx => s36 = .bool (decide (kk < script.length ∧ kk < 20)) ∧ wx = wr)
    case first =>
      by_cases hlt : kk < script.length
      · have hltz : (kk : Int) < (script.length : Int) := by omega
        by_cases h20 : kk < 20
        · have h20z : (kk : Int) < 20 := by omega
          go_wp2_with fail
          go_meet
          case rel => exact ⟨by rw [decide_eq_true (show kk < script.length ∧ kk < 20 from ⟨hlt, h20⟩)], rfl⟩
        · have h20z : ¬ (kk : Int) < 20 := by omega
          go_wp2_with fail
          go_meet
          case rel => exact ⟨by rw [decide_eq_false (show ¬ (kk < script.length ∧ kk < 20) from fun h => h20 h.2)], rfl⟩
      · have hltz : ¬ (kk : Int) < (script.length : Int) := by omega
        go_wp2_with fail
        go_meet
        case rel => exact ⟨by rw [decide_eq_false (show ¬ (kk < script.length ∧ kk < 20) from fun h => hlt h.1)], rfl⟩
    case rest =>
    obtain ⟨rfl, rfl⟩ := hcut
    by_cases hc : kk < script.length ∧ kk < 20
    · rw [decide_eq_true hc]
      have hlt := hc.1
      have h20 := hc.2
      clear hc
      have hltz : (kk : Int) < (script.length : Int) := by omega
      obtain ⟨sad, Ai, ci, hB, xs0, hRow⟩ := script_row HS.out HR.out.below kk hlt
      obtain ⟨ins, hins⟩ : ∃ ins, script.getD kk [] = ins := ⟨_, rfl⟩
      rw [hins] at xs0 hRow
      subst hB
      have HROW := Aside0.mk hRow
      clear hRow
      have hst := stepR_st l N (stK l N m0 script kk) ins
      rw [show nextS l N (stK l N m0 script kk) ins = (stK l N m0 script (kk + 1)) from by rw [← hins]; rfl, show outS l N (stK l N m0 script kk) ins = (outK l N m0 script kk) from by rw [← hins]; rfl] at hst
      clear hins
      have HST := Aside0.mk (stepm_calls HOK.out HLS.out HC.out HFW.out HFR.out ins Ai ci (fun W hW => Kd.C_below HROW.out (HR.out.keeps hW)) HR.out)
      rw [hst] at HST
      clear hst
      go_wp2_with fail
      refine HST.out.mono ?_
      clear xs0 HST
      rintro e w6 ⟨⟨Bo, cBo, rfl, hCo, hfo⟩, hR, hT⟩
      simp only [] at hR hCo ⊢
      have HNV := Aside0.mk (show Held w6 g ma (.slice A8 kk c8) (.slice A9 kk c9) (.slice Bo (outK l N m0 script kk).1.length cBo) (outK l N m0 script kk).1 from ⟨Bo, cBo, rfl, hCo, fun ad e hne => by have h1 := hfo ad e; have h2 := LG.out; have h3 := HB0.out; exact ⟨by omega, by omega, fun e2 => by have := R_bound_lt H8.out _ e2; omega, fun e2 => by have := R_bound_lt H9.out _ e2; omega, ints_lt hCo ad e hne⟩⟩)
      have HB6 := Aside0.mk (Nat.le_trans HB0.out hT.size)
      have HH6 := Aside0.mk (fun k hk => (HH.out k hk).turned hT)
      have H86 := Aside0.mk (R_turned H8.out rfl hT (fun k hk hs => by have h1 := Kd.R_base H8.out k hk; have h2 := LG.out; omega))
      have H96 := Aside0.mk (R_turned H9.out rfl hT (fun k hk hs => by have h1 := Kd.R_base H9.out k hk; have h2 := LG.out; omega))
      have HR6 := Aside0.mk hR
      clear hCo hfo hR hT HR H8 H9 HH HB0
      skip
      go_upto_region 14 with (at_builtin; refine Kd.R_append (Kd.raw 1) (w0 := w6) b0 rfl (.tmp 48) (.tmp 50) 42 49 (.slice none 0 0) 24 rfl HU8.out info_rI rfl (by show 0 < 1; decide) (by omega) (.slice A8 kk c8) (us.map (fun u => [u])) [(.slice Bo (outK l N m0 script kk).1.length cBo)] [(.slice Bo (outK l N m0 script kk).1.length cBo)] (fun _ => True) (fun _ => False) rfl rfl ⟨rfl, rfl, fun u' h => by rw [List.mem_singleton.1 h]; rfl⟩ (fun k hk => hk.elim) (fun _ _ => trivial) H86.out (Below.refl _ _) HB6.out (by rw [List.length_map]; omega) ?_; intro v8' w7 hr7 hb7 hg7 hat7; have H87 := Aside0.mk hr7; have HG7 := Aside0.mk hg7; have HA7 := Aside0.mk hat7; clear hr7 hb7 hg7 hat7)
      have HB7 := Aside0.mk (Nat.le_trans HB6.out HG7.out.size)
      have HR7 := Aside0.mk (HR6.out.grown HG7.out (fun k hk => by have h1 := Kd.R_base H86.out k hk; have h2 := LG.out; omega))
      have H97 := Aside0.mk (Kd.R_grown2 H96.out rfl HG7.out (fun k hk => by obtain ⟨cs8, h8⟩ := R_typed H86.out k hk; exact Kd.R_ne H96.out h8 (by decide)))
      have HH7 := Aside0.mk (fun k hk => (HH6.out k hk).grow8 HG7.out HA7.out)
      have HNV7 := Aside0.mk (HNV.out.grow8 HG7.out HA7.out)
      clear HR6 H86 H96 HH6 HNV HG7 HA7 HB6
      go_wp2_with (at_builtin; refine Kd.R_append (Kd.int .i64) (w0 := w7) b0 rfl (.tmp 52) (.tmp 54) 58 26 (.int .i64 0) 8 rfl HU9.out info_rE rfl (by decide) (by omega) (.slice A9 kk c9) ((List.range kk).map (fun k => (outK l N m0 script k).2)) (outK l N m0 script kk).2 [.int .i64 (outK l N m0 script kk).2] (fun _ => True) (fun _ => False) rfl rfl (show (Kd.int .i64).M _ _ _ (outK l N m0 script kk).2 [.int .i64 (outK l N m0 script kk).2] from rfl) (fun k hk => hk.elim) (fun _ _ => trivial) H97.out (Below.refl _ _) HB7.out (by rw [List.length_map, List.length_range]; omega) ?_; intro v9' w8 hr8 hb8 hg8 hat8; have H98 := Aside0.mk hr8; have HG8 := Aside0.mk hg8; have HA8 := Aside0.mk hat8; clear hr8 hb8 hg8 hat8)
      have HR8 := Aside0.mk (HR7.out.grown HG8.out (fun k hk => by have h1 := Kd.R_base H97.out k hk; have h2 := LG.out; omega))
      have HB8 := Aside0.mk (Nat.le_trans HB7.out HG8.out.size)
      have H88 := Aside0.mk (Kd.R_grown2 H87.out rfl HG8.out (fun k hk => by obtain ⟨cs9, h9⟩ := R_typed H97.out k hk; exact Kd.R_ne H87.out h9 (by decide)))
      have H88' := Aside0.mk (show (Kd.raw 1).R 49 w8 b0 (fun _ => True) v8' ((us ++ [(Value.slice Bo (outK l N m0 script kk).1.length cBo)]).map (fun u => [u])) by rw [List.map_append]; exact H88.out)
      have H98' := Aside0.mk (show (Kd.int .i64).R 26 w8 b0 (fun _ => True) v9' ((List.range (kk + 1)).map (fun k => (outK l N m0 script k).2)) by rw [List.range_succ, List.map_append]; exact H98.out)
      have HH8 := Aside0.mk (show ∀ k, k < kk + 1 → Held w8 g ma v8' v9' ((us ++ [(Value.slice Bo (outK l N m0 script kk).1.length cBo)]).getD k undef) (outK l N m0 script k).1 from fun k hk => by
        by_cases e : k < kk
        · rw [snoc_lt _ _ _ (by omega)]; exact (HH7.out k e).grow9 HG8.out HA8.out
        · obtain rfl : k = kk := by omega
          rw [snoc_eq _ _ _ hus]; exact HNV7.out.grow9 HG8.out HA8.out)
      clear HR7 H87 H97 HH7 HNV7 HG8 HA8 HB7 H88 H98
      go_wp2_with fail
      go_roundg (script.length - (kk + 1))
      case measure => omega
      case rel => exact ⟨kk + 1, v8', v9', us ++ [(Value.slice Bo (outK l N m0 script kk).1.length cBo)], by omega, by omega, by omega, by go_num, rfl, rfl, by simp [hus], HB8, HR8, H88', H98', HH8⟩
    · rw [decide_eq_false hc]
      clear hc hgk
      have HLN := Aside0.mk HR.out.len
      go_wp2_with fail
      refine (rbegin_calls HR.out HOK.out (by have := HLS.out.len; omega) HC.out HN.out.symm).mono ?_
      rintro e w6 ⟨rfl, hR, hT⟩
      rw [HBG.out _ HLN.out] at hR
      replace HH := Aside0.mk (fun k hk => (HH.out k hk).turned hT)
      replace H8 := Aside0.mk (R_turned H8.out rfl hT (fun k hk hs => by have h1 := Kd.R_base H8.out k hk; have h2 := LG.out; omega))
      replace H9 := Aside0.mk (R_turned H9.out rfl hT (fun k hk hs => by have h1 := Kd.R_base H9.out k hk; have h2 := LG.out; omega))
      replace HR := Aside0.mk hR
      clear hR hT HLN HB0
      go_wp2_with fail
      refine (rcount_calls HR.out).mono ?_
      rintro e w7 ⟨rfl, rfl⟩
      go_wp2_with fail
      refine (rdefined_calls HR.out).mono ?_
      rintro e w8 ⟨rfl, hb⟩
      have hT := Turned.of_below (S := fun b => b = g ∨ b = ma.block) hb
      replace HH := Aside0.mk (fun k hk => (HH.out k hk).turned hT)
      replace H8 := Aside0.mk (R_turned H8.out rfl hT (fun k hk hs => by have h1 := Kd.R_base H8.out k hk; have h2 := LG.out; omega))
      replace H9 := Aside0.mk (R_turned H9.out rfl hT (fun k hk hs => by have h1 := Kd.R_base H9.out k hk; have h2 := LG.out; omega))
      replace HR := Aside0.mk (HR.out.below' hb)
      clear hb hT
      have dn : ((defN m0 : Int) != (defN m0 : Int)) = false := by simp
      go_wp2_with fail
      clear dn
      have hkm : kk ≤ 20 := hk20
      go_loopg [13] kk (fun gg s13 wr => ∃ jj : Nat, jj ≤ kk ∧ kk - jj ≤ gg ∧ s13 = .int .i64 jj ∧ Aside0 (RAt w1 wr g ma A c l N (stK l N m0 script jj).1 (stK l N m0 script jj).2.1 (stK l N m0 script jj).2.2) ∧ Aside0 ((Kd.raw 1).R 49 wr b0 (fun _ => True) (.slice A8 kk c8) (us.map (fun u => [u]))) ∧ Aside0 ((Kd.int .i64).R 26 wr b0 (fun _ => True) (.slice A9 kk c9) ((List.range kk).map (fun k => (outK l N m0 script k).2))) ∧ Aside0 (∀ k, k < kk → Held wr g ma (.slice A8 kk c8) (.slice A9 kk c9) (us.getD k undef) (outK l N m0 script k).1))
      case atStart => exact ⟨0, Nat.zero_le _, by omega, rfl, HR, H8, H9, HH⟩
      case round =>
        clear HR H8 H9 HH
        obtain ⟨jj, hjj, hgj, rfl, HR, H8, H9, HH⟩ := hrel
        by_cases hlt : jj < kk
        · have hltz : (jj : Int) < (kk : Int) := by omega
          have hls : jj < script.length := by omega
          have hlsz : (jj : Int) < (script.length : Int) := by omega
          obtain ⟨sad, Ai, ci, hB, xs0, hRow⟩ := script_row HS.out HR.out.below jj hls
          obtain ⟨ins, hins⟩ : ∃ ins, script.getD jj [] = ins := ⟨_, rfl⟩
          rw [hins] at xs0 hRow
          subst hB
          have HROW := Aside0.mk hRow
          clear hRow
          have hst := stepR_st l N (stK l N m0 script jj) ins
          rw [show nextS l N (stK l N m0 script jj) ins = (stK l N m0 script (jj + 1)) from by rw [← hins]; rfl, show outS l N (stK l N m0 script jj) ins = (outK l N m0 script jj) from by rw [← hins]; rfl] at hst
          clear hins
          have HST := Aside0.mk (stepm_calls HOK.out HLS.out HC.out HFW.out HFR.out ins Ai ci (fun W hW => Kd.C_below HROW.out (HR.out.keeps hW)) HR.out)
          rw [hst] at HST
          clear hst
          go_wp2_with fail
          refine HST.out.mono ?_
          clear xs0 HST
          rintro e w6 ⟨⟨Bo, cBo, rfl, hCo, hfo⟩, hR, hT⟩
          simp only [] at hR hCo ⊢
          replace HH := Aside0.mk (fun k hk => (HH.out k hk).turned hT)
          replace H8 := Aside0.mk (R_turned H8.out rfl hT (fun k hk hs => by have h1 := Kd.R_base H8.out k hk; have h2 := LG.out; omega))
          replace H9 := Aside0.mk (R_turned H9.out rfl hT (fun k hk hs => by have h1 := Kd.R_base H9.out k hk; have h2 := LG.out; omega))
          replace HR := Aside0.mk hR
          have HCO := Aside0.mk hCo
          clear hR hT hCo hfo
          obtain ⟨Ak, ck, huk, hCk, _⟩ := HH.out jj hlt
          have HCK := Aside0.mk hCk
          clear hCk
          have hC8 := (Kd.R_reads' H8.out).2.2
          have hC9 := (Kd.R_reads' H9.out).2.2
          obtain ⟨a8, cs8, rfl, q8, k8, cc8⟩ := Kd.C_get hC8 ([] : List Value) (jj : Int) (by omega) (by rw [List.length_map]; omega)
          obtain ⟨a9, cs9, rfl, q9, k9, cc9⟩ := Kd.C_get hC9 (0 : Int) (jj : Int) (by omega) (by rw [List.length_map, List.length_range]; omega)
          clear q8 q9
          obtain rfl := k8.1
          clear k8
          obtain rfl := k9
          rw [Int.toNat_natCast, map_get us jj (by omega), huk] at cc8
          rw [Int.toNat_natCast, range_get kk jj hlt] at cc9
          have z8 := cc8 0 _ rfl
          have z9 := cc9 0 _ rfl
          simp only [show (Kd.raw 1).sz = 1 from rfl, Nat.mul_one, Nat.add_zero] at z8
          simp only [show (Kd.int .i64).sz = 1 from rfl, Nat.mul_one, Nat.add_zero] at z9
          clear cc8 cc9 hC8 hC9 huk
          obtain ⟨o1, ho1⟩ : ∃ o1, (outK l N m0 script jj).1 = o1 := ⟨_, rfl⟩
          obtain ⟨o2, ho2⟩ : ∃ o2, (outK l N m0 script jj).2 = o2 := ⟨_, rfl⟩
          rw [ho1] at HCO HCK z8 ⊢
          rw [ho2] at z9 ⊢
          clear ho1 ho2
          have dn : (o2 != o2) = false := by simp
          go_wp2_with fail
          refine (same_calls o1 Bo Ak cBo ck _ HCO.out HCK.out).mono ?_
          rintro e w7 ⟨rfl, hb⟩
          have hT := Turned.of_below (S := fun b => b = g ∨ b = ma.block) hb
          replace HH := Aside0.mk (fun k hk => (HH.out k hk).turned hT)
          replace H8 := Aside0.mk (R_turned H8.out rfl hT (fun k hk hs => by have h1 := Kd.R_base H8.out k hk; have h2 := LG.out; omega))
          replace H9 := Aside0.mk (R_turned H9.out rfl hT (fun k hk hs => by have h1 := Kd.R_base H9.out k hk; have h2 := LG.out; omega))
          replace HR := Aside0.mk (HR.out.below' hb)
          clear hb hT z8 z9 dn HCO HCK
          go_wp2_with fail
          go_roundg (kk - (jj + 1))
          case measure => omega
          case rel => exact ⟨jj + 1, by omega, by omega, by go_num, HR, H8, H9, HH⟩
        · have hltz : ¬ (jj : Int) < (kk : Int) := by omega
          have HBE := Aside0.mk (HB.out.trans (HR.out.below.mono HB.out.size))
          go_wp2_with fail
          go_ret
          exact ⟨rfl, HBE.out⟩
end Go.Proofs.YticndoihkfbpoaaGreatDoor
