/- The law ScopeFinds: its walk. -/
import Derived.Test.YtcekbkbhaceilaaRc
namespace Go.Proofs.Ytcekbkbhaceilaa
open Go Go.RowKit Go.Lib Go.Proofs.YtcekbkbhaceilaaW.PrintWords Go.Proofs.Ytcekbkbhaceilaa.PScope
set_option maxRecDepth 100000
set_option linter.unusedSimpArgs false
set_option linter.unusedVariables false

theorem same_calls (A A' : Option Addr) (c c' : Nat) (l : List ByteArray) (w : World) (h1 : Kd.string.C w A l.length l) (k1 : l.length ≤ c) (h2 : Kd.string.C w A' l.length l) (k2 : l.length ≤ c') :
    Calls Try.prog 16 #[.slice A l.length c, .slice A' l.length c'] w fun e w' => e = .returned (.bool true) ∧ Below w.heap.size w w' := by
  refine (penduleref01_SameNames.calls (l.length + 1) A c l A' c' l true w h1 k1 h2 k2 (same_eq l h1.2.1)).mono ?_
  rintro e w' ⟨rfl, ⟨k, rfl⟩⟩
  exact ⟨rfl, pw_below_drewN (Below.refl _ _) k⟩

set_option maxHeartbeats 16000000 in
theorem scopeFinds_calls (es : List S72) (ns : List S36) (Ae An : Option Addr) (ce cn : Nat) (s : ByteArray) (w : World) (he : k72.C w Ae es.length es) (hn : k36.C w An ns.length ns) (hce : es.length ≤ ce) (hcn : ns.length ≤ cn) (hvb : ∀ k, k < ns.length → (varsL (ns.getD k z36)).length ≤ 1048576) :
    Calls Try.prog 6 #[.agg #[.slice Ae es.length ce, .slice An ns.length cn], .string s] w fun e w' => e = .returned (.bool true) ∧ Below w.heap.size w w' := by
  have HN := Aside0.mk hn; have HB := Aside0.mk (Below.refl w.heap.size w); have HVB := Aside0.mk hvb
  have hli := fun W => lives_calls W
  have hc1 := fun (W : World) (hB : Below w.heap.size w W) => con_find_calls es Ae An ce ns.length cn s W (Kd.C_below he hB)
  have hc2 := fun (W : World) (hB : Below w.heap.size w W) => penduleref05_Con.calls (costE es + 1) Ae ce es An cn ns s (conR es s).1 (conR es s).2.1 (conR es s).2.2 W (Kd.C_below he hB) hce (Kd.C_below hn hB) hcn (con_eq s es ns he.2.1 (cons_len he))
  have hn1 := fun (W : World) (hB : Below w.heap.size w W) => sfind_calls ns Ae An es.length ce cn s w W hn hB
  have hn2 := fun (W : World) (hB : Below w.heap.size w W) => penduleref05_Node.calls (ns.length + 1) Ae ce es An cn ns s _ _ W (Kd.C_below he hB) hce (Kd.C_below hn hB) hcn (node_eq s es ns hn.2.1)
  clear he hn hvb hce hcn
  generalize conR es s = R at hc1 hc2
  obtain ⟨r1, r2, r3⟩ := R
  simp only at hc1 hc2
  generalize ((findN s ns).getD 0 : Nat) = q1 at hn1 hn2
  generalize (findN s ns).isSome = q2 at hn1 hn2
  have hu1 := Try.underlying25
  have hu4 := Try.underlying36
  go_enter Try.func6, Try.ntmps6
  go_wp2_with ((with_reducible refine gate_dst (N := 2) rfl ?_); refine box_event ?hg (N := 2) ?hd (cs := #[.slice Ae es.length ce, .slice An ns.length cn]) (t := 25) ?hr ?_; (case hd => rfl); (case hg => rfl); (case hr => first | (go_simp; done) | (go_simp; rfl)); intro g2 hg_ w_ hbox hb; have B2 := Aside0.mk hbox; have LB2 := Aside0.mk ((by rw [hg_]; exact below_size HB.out) : w.heap.size ≤ g2); replace HB := Aside0.mk (below_step HB.out hb); clear hb hbox hg_; have c2_0 := (blk_cell B2.out 0).trans rfl; have c2_1 := (blk_cell B2.out 1).trans rfl)
  refine (hli _).mono ?_
  rintro e w3 ⟨rfl, hb⟩
  replace B2 := Aside0.mk (below_blk B2.out hb)
  replace HB := Aside0.mk (below_step HB.out hb)
  clear hb hli c2_0 c2_1
  have c2_0 := (blk_cell B2.out 0).trans rfl
  have c2_1 := (blk_cell B2.out 1).trans rfl
  go_wp2_with fail
  refine (hc1 _ HB.out).mono ?_
  rintro e w4 ⟨rfl, hb⟩
  replace B2 := Aside0.mk (below_blk B2.out hb)
  replace HB := Aside0.mk (below_step HB.out hb)
  clear hb hc1 c2_0 c2_1
  have c2_0 := (blk_cell B2.out 0).trans rfl
  have c2_1 := (blk_cell B2.out 1).trans rfl
  go_wp2_with fail
  refine (hc2 _ HB.out).mono ?_
  rintro e w5 ⟨rfl, hb⟩
  replace B2 := Aside0.mk (below_blk B2.out hb)
  replace HB := Aside0.mk (below_step HB.out hb)
  clear hb hc2 c2_0 c2_1
  have c2_0 := (blk_cell B2.out 0).trans rfl
  have c2_1 := (blk_cell B2.out 1).trans rfl
  go_wp2_with fail
  refine (hn1 _ HB.out).mono ?_
  rintro e w6 ⟨rfl, hb⟩
  replace B2 := Aside0.mk (below_blk B2.out hb)
  replace HB := Aside0.mk (below_step HB.out hb)
  clear hb hn1 c2_0 c2_1
  have c2_0 := (blk_cell B2.out 0).trans rfl
  have c2_1 := (blk_cell B2.out 1).trans rfl
  go_wp2_with fail
  refine (hn2 _ HB.out).mono ?_
  rintro e w7 ⟨rfl, hb⟩
  replace B2 := Aside0.mk (below_blk B2.out hb)
  replace HB := Aside0.mk (below_step HB.out hb)
  clear hb hn2 c2_0 c2_1
  have c2_0 := (blk_cell B2.out 0).trans rfl
  have c2_1 := (blk_cell B2.out 1).trans rfl
  go_wp2_with fail
  clear c2_0 c2_1
  go_loopg [15] ns.length (fun gg s_ wr => ∃ (kka : Nat), kka ≤ ns.length ∧ ns.length - kka ≤ gg ∧ s_ = .int .i64 kka ∧ Aside0 (Below w.heap.size w wr) ∧ Aside0 (wr.heap[g2]? = some (.cells #[.slice Ae es.length ce, .slice An ns.length cn] 25 (0, 0))))
  case atStart => exact ⟨0, Nat.zero_le _, by omega, rfl, HB, B2⟩
  case round =>
    clear HB B2
    obtain ⟨kka, hkka, hgkka, rfl, HB, B2⟩ := hrel
    have hmxa : ns.length ≤ 9223372036854775807 := (HN.out).2.1
    by_cases hlta : kka < ns.length
    · have hltza : (kka : Int) < (ns.length : Int) := by omega
      have c2_0 := (blk_cell B2.out 0).trans rfl
      have c2_1 := (blk_cell B2.out 1).trans rfl
      have hvn := HVB.out kka hlta
      obtain ⟨nad, ncs, rfl, _, nK, ncc⟩ := Kd.C_get HN.out z36 (kka : Int) (by omega) (by omega)
      have nK' := nK
      obtain ⟨nA1, nc1, nA2, nc2, nA3, nc3, nA4, nc4, rfl, nl1, ng1, nl2, ng2, nl3, ng3, nl4, ng4⟩ := k36_open nK'
      have nx0 := (HB.out.cell (World.block_lt_of_cell? w _ (ncc 0 _ rfl))).trans (ncc 0 _ rfl)
      have nx1 := (HB.out.cell (World.block_lt_of_cell? w _ (ncc 1 _ rfl))).trans (ncc 1 _ rfl)
      have nx2 := (HB.out.cell (World.block_lt_of_cell? w _ (ncc 2 _ rfl))).trans (ncc 2 _ rfl)
      have nx3 := (HB.out.cell (World.block_lt_of_cell? w _ (ncc 3 _ rfl))).trans (ncc 3 _ rfl)
      have nx4 := (HB.out.cell (World.block_lt_of_cell? w _ (ncc 4 _ rfl))).trans (ncc 4 _ rfl)
      rw [show (k36).sz = 5 from rfl, Nat.add_zero, Int.toNat_natCast] at nx0
      rw [show (k36).sz = 5 from rfl, Int.toNat_natCast, add_field _ _ 1 (by omega)] at nx1
      rw [show (k36).sz = 5 from rfl, Int.toNat_natCast, add_field _ _ 2 (by omega)] at nx2
      rw [show (k36).sz = 5 from rfl, Int.toNat_natCast, add_field _ _ 3 (by omega)] at nx3
      rw [show (k36).sz = 5 from rfl, Int.toNat_natCast, add_field _ _ 4 (by omega)] at nx4
      clear ncc
      try simp only [Int.toNat_natCast] at nx0 nx1 nx2 nx3 nx4 nK nl1 ng1 nl2 ng2 nl3 ng3 nl4 ng4
      generalize Yn0 : ns.getD kka z36 = n at hvn nx0 nx1 nx2 nx3 nx4 nK nl1 ng1 nl2 ng2 nl3 ng3 nl4 ng4
      have Yn := Aside0.mk Yn0; clear Yn0
      have nL1 := Aside0.mk nl1; have nG1 := Aside0.mk ng1; clear nl1 ng1
      have nL2 := Aside0.mk nl2; have nG2 := Aside0.mk ng2; clear nl2 ng2
      have nL3 := Aside0.mk nl3; have nG3 := Aside0.mk ng3; clear nl3 ng3
      have nL4 := Aside0.mk nl4; have nG4 := Aside0.mk ng4; clear nl4 ng4
      have HVN := Aside0.mk hvn; have NK := Aside0.mk nK
      clear hvn nK
      have hv1 := fun (W : World) (hB : Below w.heap.size w W) => vars_calls n W _ (Kd.K_below _ hB NK.out) (by have := HVN.out; omega)
      have hv2 := fun (W : World) (hB : Below w.heap.size w W) => rvars_calls n W _ (Kd.K_below _ hB NK.out) (by have := HVN.out; omega)
      generalize varsL n = l at hv1 hv2 HVN
      go_upto_region 10 with (fail)
      go_cut [64] from 44 to 64 (fun s64 wx => s64 = .bool false ∧ Aside0 (Below w.heap.size w wx) ∧ Aside0 (wx.heap[g2]? = some (.cells #[.slice Ae es.length ce, .slice (some nad) ns.length cn] 25 (0, 0))))
      case first =>
        go_region_with (first | (refine (hv1 _ (by first | exact HWy.out | exact below_drew1 HB.out)).mono ?_; rintro e wp ⟨A1v, c1v, rfl, hl_, hC_, hb_⟩; have HCx := Aside0.mk hC_; have HLx := Aside0.mk hl_; have HBx := Aside0.mk hb_; have HWx := Aside0.mk (below_step (by first | exact HWy.out | exact below_drew1 HB.out) hb_); have B2x := Aside0.mk (below_blk (by first | exact B2y.out | exact B2.out) hb_); have c2x_0 := (blk_cell B2x.out 0).trans rfl; have c2x_1 := (blk_cell B2x.out 1).trans rfl; have nxx_0 := pw_cell_below hb_ (by first | exact nxy_0 | exact nx0); have nxx_1 := pw_cell_below hb_ (by first | exact nxy_1 | exact nx1); have nxx_2 := pw_cell_below hb_ (by first | exact nxy_2 | exact nx2); have nxx_3 := pw_cell_below hb_ (by first | exact nxy_3 | exact nx3); have nxx_4 := pw_cell_below hb_ (by first | exact nxy_4 | exact nx4); clear hC_ hl_ hb_) | (refine (hv2 _ (by first | exact HWx.out | exact below_drew1 HB.out)).mono ?_; rintro e wq ⟨A2v, c2v, rfl, hl_, hC_, hb_⟩; have HCy := Aside0.mk hC_; have HLy := Aside0.mk hl_; have HBy := Aside0.mk hb_; have HWy := Aside0.mk (below_step (by first | exact HWx.out | exact below_drew1 HB.out) hb_); have B2y := Aside0.mk (below_blk (by first | exact B2x.out | exact B2.out) hb_); have c2y_0 := (blk_cell B2y.out 0).trans rfl; have c2y_1 := (blk_cell B2y.out 1).trans rfl; have nxy_0 := pw_cell_below hb_ (by first | exact nxx_0 | exact nx0); have nxy_1 := pw_cell_below hb_ (by first | exact nxx_1 | exact nx1); have nxy_2 := pw_cell_below hb_ (by first | exact nxx_2 | exact nx2); have nxy_3 := pw_cell_below hb_ (by first | exact nxx_3 | exact nx3); have nxy_4 := pw_cell_below hb_ (by first | exact nxx_4 | exact nx4); clear hC_ hl_ hb_) | (refine (same_calls A1v A2v c1v c2v l _ (by first | exact HCx.out | exact Kd.C_below HCx.out HBy.out) HLx.out (by first | exact HCy.out | exact Kd.C_below HCy.out HBx.out) HLy.out).mono ?_; rintro e wz ⟨rfl, hb_⟩; have HWz := Aside0.mk (below_step (by first | exact HWx.out | exact HWy.out) hb_); have B2z := Aside0.mk (below_blk (by first | exact B2x.out | exact B2y.out) hb_); clear hb_))
        all_goals
          go_wp2_with fail
          go_meet
          case rel => exact ⟨rfl, HWz, B2z⟩
      case rest =>
        clear HB B2 nx0 nx1 nx2 nx3 nx4 hv1 hv2 c2_0 c2_1
        obtain ⟨rfl, HB, B2⟩ := hcut
        go_wp2_with fail
        go_roundg (ns.length - (kka + 1))
        case measure => omega
        case rel => exact ⟨kka + 1, by omega, by omega, by go_num, HB, B2⟩
    · have hltza : ¬ (kka : Int) < (ns.length : Int) := by omega
      obtain rfl : kka = ns.length := by omega
      have c2_0 := (blk_cell B2.out 0).trans rfl
      have c2_1 := (blk_cell B2.out 1).trans rfl
      go_wp2_with fail
      go_ret
      exact ⟨rfl, HB.out⟩

end Go.Proofs.Ytcekbkbhaceilaa
