/- Contract of the reference's Scan. -/
import Derived.Test.YtffeikfffmonkaaDoorScanF
import Derived.Test.YtffeikfffmonkaaDoorPScanx8
import Derived.Test.YtffeikfffmonkaaDoorPScanx5
import Derived.Test.YtffeikfffmonkaaDoorPScanx7
import Derived.Deep.RegionHeld3
import Derived.Deep.AppendLies
namespace Go.Proofs.YtffeikfffmonkaaDoor
open Go Go.RowKit Go.Lib Go.Proofs.YtffeikfffmonkaaDoorW.PrintWords Go.Proofs.YtffeikfffmonkaaDoorW.PrintLast Go.Proofs.YtffeikfffmonkaaDoorW.PrintMore
set_option maxRecDepth 100000
set_option linter.unusedSimpArgs false
set_option linter.unusedVariables false

namespace PScan
/-! ### penduleref01_Scan: function 11 -/
def penduleref01_Scan.l0 : Nat → ByteArray → List (S32) → Int → Option ((List (S32)) × Int × Int × Int)
  | 0, _, _, _ => none
  | k + 1, x0, x4, x5 => if x5 < (x0.size : Int) then (if 0 ≤ x5 then (if x5 ≤ (x0.size : Int) then ((penduleref01_token.f k (x0.extract (x5 : Int).toNat x0.size)).bind fun bt204 => ((penduleref01_Place.f k x0 x5).bind fun bt211 => (if bt204.2.2.2.2.2 = true then (if x4.length < 2932031007402 then (if 0 ≤ (wrap64 (x5 + (bt204.2.1.size : Int))) then (if (wrap64 (x5 + (bt204.2.1.size : Int))) ≤ (x0.size : Int) then ((penduleref01_gap.f k (x0.extract ((wrap64 (x5 + (bt204.2.1.size : Int))) : Int).toNat x0.size)).bind fun t216 => (penduleref01_Scan.l0 k x0 (x4 ++ [(⟨bt204.1, bt204.2.1, bt204.2.2.1, bt211.1, bt211.2⟩ : S32)]) (wrap64 ((wrap64 (x5 + (bt204.2.1.size : Int))) + t216)))) else (none)) else (none)) else (none)) else (some (([] : List (S32)), 2, bt211.1, bt211.2))))) else (none)) else (none)) else ((penduleref01_Place.f k x0 (x0.size : Int)).bind fun bt199 => (if x4.length < 2932031007402 then (some ((x4 ++ [(⟨6, (⟨#[]⟩ : ByteArray), 0, bt199.1, bt199.2⟩ : S32)]), 0, 0, 0)) else (none)))
def penduleref01_Scan.f (k : Nat) (a0 : ByteArray) : Option ((List (S32)) × Int × Int × Int) := if (a0.size : Int) > 65536 then (some (([] : List (S32)), 9, 0, 0)) else ((penduleref01_gap.f k a0).bind fun t198 => (penduleref01_Scan.l0 k a0 ([] : List (S32)) t198))
theorem penduleref01_Scan.mono_l : ∀ k, (∀ y0 y1 y2, LeO (penduleref01_Scan.l0 k y0 y1 y2) (penduleref01_Scan.l0 (k + 1) y0 y1 y2))
  | 0 => fun _ _ _ r h => by simp [penduleref01_Scan.l0] at h
  | k + 1 => by
    have ih0 := penduleref01_Scan.mono_l k
    · intro y0 y1 y2
      unfold penduleref01_Scan.l0
      repeat' first
      | (with_reducible exact ih0 _ _ _)
      | (with_reducible exact penduleref01_Place.mono _ _ _)
      | (with_reducible exact penduleref01_gap.mono _ _)
      | (with_reducible exact penduleref01_token.mono _ _)
      | (with_reducible exact LeO.refl _)
      | (with_reducible exact LeO.none _)
      | (with_reducible refine LeO.ite ?_ ?_)
      | (with_reducible refine LeO.bind ?_ (fun _ => ?_))
      | exact ih0 _ _ _
      | exact penduleref01_Place.mono _ _ _
      | exact penduleref01_gap.mono _ _
      | exact penduleref01_token.mono _ _
      | exact LeO.none _
      | refine LeO.ite ?_ ?_
      | refine LeO.bind ?_ (fun _ => ?_)
theorem penduleref01_Scan.mono : ∀ a0 k, LeO (penduleref01_Scan.f k a0) (penduleref01_Scan.f (k + 1) a0) := by
  intro a0 k
  have ih0 := penduleref01_Scan.mono_l k
  unfold penduleref01_Scan.f
  repeat' first
      | (with_reducible exact ih0 _ _ _)
      | (with_reducible exact penduleref01_Place.mono _ _ _)
      | (with_reducible exact penduleref01_gap.mono _ _)
      | (with_reducible exact penduleref01_token.mono _ _)
      | (with_reducible exact LeO.refl _)
      | (with_reducible exact LeO.none _)
      | (with_reducible refine LeO.ite ?_ ?_)
      | (with_reducible refine LeO.bind ?_ (fun _ => ?_))
      | exact ih0 _ _ _
      | exact penduleref01_Place.mono _ _ _
      | exact penduleref01_gap.mono _ _
      | exact penduleref01_token.mono _ _
      | exact LeO.none _
      | refine LeO.ite ?_ ?_
      | refine LeO.bind ?_ (fun _ => ?_)

set_option maxHeartbeats 4000000 in
theorem penduleref01_Scan.calls (k : Nat) (x : ByteArray) (r1 : List S32) (r2 r3 r4 : Int) (w : World) (h : penduleref01_Scan.f k x = some (r1, r2, r3, r4)) :
    Calls Tryd.prog 11 #[.string x] w fun e w' => ∃ v0_ : Value, e = .returned (.tuple #[v0_, .agg #[.int .i64 r2, .int .i64 r3, .int .i64 r4]]) ∧ Kd.R k32 32 w' w.heap.size (fun _ => True) v0_ r1 ∧ Below w.heap.size w w' := by
  unfold penduleref01_Scan.f at h
  by_cases c0 : (x.size : Int) > 65536
  · rw [if_pos c0] at h
    simp only [Option.some.injEq, Prod.mk.injEq] at h
    obtain ⟨rfl, rfl, rfl, rfl⟩ := h
    have c1 : decide (65536 < (x.size : Int)) = true := decide_eq_true c0
    have c2 : decide (65536 < x.size) = true := decide_eq_true (by omega)
    go_enter Tryd.func11, Tryd.ntmps11
    go_wp2_with fail
    refine bodyPost_ret (results_tc rfl _ _ w.heap.size 26 #[.int .i64 9, .int .i64 0, .int .i64 0] (0, 0) _ rfl (blk_new _ _) Tryd.underlying26 rfl (by kernel_rfl)) rfl ⟨_, rfl, Kd.R_nil _ _ _ _ _, below_alloc (Below.refl _ _) _⟩
  · rw [if_neg c0] at h
    have c1 : decide (65536 < (x.size : Int)) = false := decide_eq_false c0
    have c2 : decide (65536 < x.size) = false := decide_eq_false (by omega)
    have hx : x.size ≤ 65536 := by omega
    obtain ⟨g0, hg0, h1⟩ := Option.bind_eq_some_iff.mp h
    have HG := Aside0.mk hg0
    have HH := Aside0.mk h1
    clear h h1 hg0
    go_enter Tryd.func11, Tryd.ntmps11
    go_wp2_with fail
    refine (penduleref01_gap.calls k x g0 _ HG.out).mono ?_
    rintro e w1 ⟨rfl, ⟨n0, rfl⟩⟩
    clear HG
    go_wp2_with fail
    go_loopg [4, 5] k (fun kq v4 v5 wr => ∃ (out : List S32) (a : Int), v5 = .int .i64 a ∧ Aside0 (penduleref01_Scan.l0 kq x out a = some (r1, r2, r3, r4)) ∧ Aside0 (Kd.R k32 32 wr w.heap.size (fun _ => True) v4 out) ∧ Aside0 (wr.heap[w.heap.size]? = some (.cells #[.int .i64 0, .int .i64 0, .int .i64 0] 26 (0, 0))) ∧ Aside0 (Below w.heap.size w wr))
    case atStart => exact ⟨[], g0, rfl, HH, ⟨Kd.R_nil _ _ _ _ _⟩, ⟨blk_drewN (blk_new _ _) _⟩, ⟨pw_below_drewN (below_alloc (Below.refl _ _) _) _⟩⟩
    case round =>
      clear HH c0 c1 c2
      obtain ⟨out, a, rfl, HA, HR, HF, HB⟩ := hrel
      cases gk with
      | zero => exact absurd HA.out (by simp [penduleref01_Scan.l0])
      | succ k1 =>
        have H := HA.out
        clear HA
        rw [penduleref01_Scan.l0] at H
        by_cases e1 : a < (x.size : Int)
        · rw [if_pos e1] at H
          by_cases e2 : 0 ≤ a
          · rw [if_pos e2] at H
            by_cases e3 : a ≤ (x.size : Int)
            · rw [if_pos e3] at H
              obtain ⟨⟨t1, t2, t3, t4, t5, t6⟩, htk, H1⟩ := Option.bind_eq_some_iff.mp H
              obtain ⟨⟨l1, p1⟩, hpl, H2⟩ := Option.bind_eq_some_iff.mp H1
              simp only at H2
              have d1 : decide (a < (x.size : Int)) = true := decide_eq_true e1
              have d2 : decide (0 ≤ a) = true := decide_eq_true e2
              have d3 : decide (a ≤ (x.size : Int)) = true := decide_eq_true e3
              have HJ := Aside0.mk H2
              have HT := Aside0.mk htk
              have HP := Aside0.mk hpl
              clear H H1 H2 htk hpl
              go_wp2_with fail
              refine (penduleref01_token.calls k1 _ t1 t2 t3 t4 t5 t6 _ HT.out).mono ?_
              rintro e w1 ⟨rfl, hb1⟩
              have HR1 := Aside0.mk (Kd.R_below HR.out hb1)
              have HF1 := Aside0.mk (blk_below HF.out hb1)
              have HB1 := Aside0.mk (below_step HB.out hb1)
              clear HR HF HB HT hb1
              go_upto_region 7 with (fail)
              have lg := blk_lt HF1.out
              have hwl := HB1.out.size
              have hlt4 := Kd.R_lt HR1.out
              have H4 := Aside0.mk (show some w1.heap.size ≠ u4.ownBlock from fun he => by have := hlt4 _ he.symm; omega)
              have NEF := Aside0.mk (Kd.R_ne HR1.out HF1.out (by decide))
              clear hlt4
              have TB := Aside0.mk (blk_new w1 (Obj.cells #[.int .i64 t1, .string t2, .int .i64 t3, .int .i64 t4, .int .i64 t5] 32))
              have RB := Aside0.mk (Kd.R_alloc (Kd.R_elderB HR1.out w1.heap.size (Nat.le_refl _)) (Obj.cells #[.int .i64 t1, .string t2, .int .i64 t3, .int .i64 t4, .int .i64 t5] 32))
              have FB := Aside0.mk (blk_alloc HF1.out (Obj.cells #[.int .i64 t1, .string t2, .int .i64 t3, .int .i64 t4, .int .i64 t5] 32))
              have BB := Aside0.mk (below_alloc HB1.out (Obj.cells #[.int .i64 t1, .string t2, .int .i64 t3, .int .i64 t4, .int .i64 t5] 32))
              clear HR1 HF1 HB1
              generalize w1.alloc (Obj.cells #[.int .i64 t1, .string t2, .int .i64 t3, .int .i64 t4, .int .i64 t5] 32) = w1b at *
              go_wp2_with fail
              refine (penduleref01_Place.calls k1 x a l1 p1 _ HP.out).mono ?_
              rintro e w2 ⟨rfl, ⟨n1, rfl⟩⟩
              have TB1 := Aside0.mk (blk_drewN TB.out n1)
              have RB1 := Aside0.mk (Kd.R_drewN RB.out n1)
              have FB1 := Aside0.mk (blk_drewN FB.out n1)
              have BB1 := Aside0.mk (pw_below_drewN BB.out n1)
              clear TB RB FB BB HP
              generalize w1b.drewN n1 = w2 at *
              cases hq6 : t6 with
              | false =>
                subst hq6
                have H := HJ.out
                rw [if_neg (by simp)] at H
                simp only [Option.some.injEq, Prod.mk.injEq] at H
                obtain ⟨rfl, rfl, rfl, rfl⟩ := H
                have hF2 := FB1.out
                have g0 : w2.cell? ⟨w.heap.size, 0, none⟩ = some (.int .i64 0) := (blk_cell hF2 0).trans rfl
                have g1 : w2.cell? ⟨w.heap.size, 1, none⟩ = some (.int .i64 0) := (blk_cell hF2 1).trans rfl
                have g2 : w2.cell? ⟨w.heap.size, 2, none⟩ = some (.int .i64 0) := (blk_cell hF2 2).trans rfl
                have y0 := blk_frozen hF2 0
                have y1 := blk_frozen hF2 1
                have y2 := blk_frozen hF2 2
                clear hF2 HJ
                go_wp2_with fail
                have hs1 := blk_put (cs' := #[.int .i64 2, .int .i64 0, .int .i64 0]) FB1.out 0 (.int .i64 2) rfl
                have hs2 := blk_put (cs' := #[.int .i64 2, .int .i64 l1, .int .i64 0]) hs1 1 (.int .i64 l1) rfl
                have hs3 := blk_put (cs' := #[.int .i64 2, .int .i64 l1, .int .i64 p1]) hs2 2 (.int .i64 p1) rfl
                refine bodyPost_ret (results_tc rfl _ _ w.heap.size 26 #[.int .i64 2, .int .i64 l1, .int .i64 p1] (0, 0) _ rfl (by (with_reducible repeat (first | refine blk_drewN ?_ _ | refine blk_drew ?_ | refine blk_alloc ?_ _)); exact hs3) Tryd.underlying26 rfl (by kernel_rfl)) rfl ⟨_, rfl, Kd.R_nil _ _ _ _ _, ?_⟩
                repeat (first | (with_reducible first | apply below_alloc | apply pw_below_drewN | apply below_drew) | exact below_set (below_set (below_set BB1.out (Nat.le_refl _)) (Nat.le_refl _)) (Nat.le_refl _))
              | true =>
                subst hq6
                have H := HJ.out
                rw [if_pos rfl] at H
                clear HJ
                by_cases e4 : out.length < 2932031007402
                · rw [if_pos e4] at H
                  obtain ⟨j, hj⟩ : ∃ j, wrap64 (a + (t2.size : Int)) = j := ⟨_, rfl⟩
                  rw [hj] at H
                  have hjw : IntKind.i64.wrap (a + (t2.size : Int)) = j := (i64_w _).trans hj
                  by_cases e5 : 0 ≤ j
                  · rw [if_pos e5] at H
                    by_cases e6 : j ≤ (x.size : Int)
                    · rw [if_pos e6] at H
                      obtain ⟨g3, hg3, H1⟩ := Option.bind_eq_some_iff.mp H
                      have HN := Aside0.mk H1
                      have HG3 := Aside0.mk hg3
                      have HE := Aside0.mk e4
                      clear H H1 hg3 e4 hj
                      have ⟨⟨k0, k1', k2, k3, k4⟩, ⟨z0, z1, z2, z3, z4⟩⟩ := five_cells TB1.out
                      go_upto_region 12 with (fail)
                      have TB2 := Aside0.mk (blk_put (cs' := #[.int .i64 t1, .string t2, .int .i64 t3, .int .i64 l1, .int .i64 p1]) (blk_put (cs' := #[.int .i64 t1, .string t2, .int .i64 t3, .int .i64 l1, .int .i64 t5]) TB1.out 3 (.int .i64 l1) rfl) 4 (.int .i64 p1) rfl)
                      have RB2 := Aside0.mk (Kd.R_mono (Kd.R_far (p := ⟨w1.heap.size, 4, none⟩) (Kd.R_far (p := ⟨w1.heap.size, 3, none⟩) RB1.out (fun _ hk => hk.2) (.int .i64 l1)) (fun _ hk => hk.2) (.int .i64 p1)) (fun _ _ => trivial))
                      have FB2 := Aside0.mk (blk_far (blk_far FB1.out (p := ⟨w1.heap.size, 3, none⟩) (Nat.ne_of_lt lg) (.int .i64 l1)) (p := ⟨w1.heap.size, 4, none⟩) (Nat.ne_of_lt lg) (.int .i64 p1))
                      have BB2 := Aside0.mk (below_set (j := 4) (v := .int .i64 p1) (below_set (j := 3) (v := .int .i64 l1) BB1.out hwl) hwl)
                      clear k0 k1' k2 k3 k4 z0 z1 z2 z3 z4 TB1 RB1 FB1 BB1
                      generalize (w2.setCell ⟨w1.heap.size, 3, none⟩ (.int .i64 l1)).setCell ⟨w1.heap.size, 4, none⟩ (.int .i64 p1) = w3 at *
                      have ⟨⟨k0, k1', k2, k3, k4⟩, ⟨z0, z1, z2, z3, z4⟩⟩ := five_cells TB2.out
                      have hbsz := BB2.out.size
                      go_wp2_with ((with_reducible refine gate_builtin (b := .append) (xs := #[.tmp 44, .tmp 46]) rfl ?_); at_builtin; refine Kd.R_append k32 (w0 := w) w.heap.size rfl (.tmp 44) (.tmp 46) 23 32 (.agg #[(.int .i64 0), (.string ⟨#[]⟩), (.int .i64 0), (.int .i64 0), (.int .i64 0)]) 48 rfl Tryd.underlying23 infoTok rfl (by decide) (by omega) u4 out (⟨t1, t2, t3, l1, p1⟩ : S32) [.int .i64 t1, .string t2, .int .i64 t3, .int .i64 l1, .int .i64 p1] (fun _ => True) (fun _ => False) rfl rfl ?aP (fun _ hk => hk.elim) ?aF ?aO ?aB ?aS ?aL ?_; (case aP => exact k32_mkM _ _ _ (⟨t1, t2, t3, l1, p1⟩ : S32)); (case aB => exact BB2.out); (case aF => exact (fun _ _ => trivial)); (case aO => exact RB2.out); (case aS => exact hbsz); (case aL => (have := HE.out; omega)); intro v4 w4 ho hb hg hat; have HO := Aside0.mk ho; have HB4 := Aside0.mk hb; have HG := Aside0.mk hg; have hT := blk_grown TB2.out hg H4.out; have hT1 : w4.cell? ⟨w1.heap.size, 1, none⟩ = some (.string t2) := (blk_cell hT 1).trans rfl; have hF4 := blk_grown FB2.out hg NEF.out; have HF4 := Aside0.mk hF4; have m1 := eq_true e5; have m2 := eq_true e6; have m3 : decide (0 ≤ j) = true := decide_eq_true e5; have m4 : decide (j ≤ (x.size : Int)) = true := decide_eq_true e6; clear ho hb hg hat hT hF4)
                      refine (penduleref01_gap.calls k1 _ g3 _ HG3.out).mono ?_
                      rintro e w5 ⟨rfl, ⟨n2, rfl⟩⟩
                      go_wp2_with fail
                      go_roundg k1
                      case measure => omega
                      case rel => exact ⟨_, wrap64 (j + g3), rfl, HN, ⟨Kd.R_drewN HO.out _⟩, ⟨blk_drewN HF4.out _⟩, ⟨pw_below_drewN HB4.out _⟩⟩
                    · rw [if_neg e6] at H; exact absurd H (by simp)
                  · rw [if_neg e5] at H; exact absurd H (by simp)
                · rw [if_neg e4] at H; exact absurd H (by simp)
            · rw [if_neg e3] at H; exact absurd H (by simp)
          · rw [if_neg e2] at H; exact absurd H (by simp)
        · rw [if_neg e1] at H
          have d1 : decide (a < (x.size : Int)) = false := decide_eq_false e1
          obtain ⟨⟨l1, p1⟩, hpl, H1⟩ := Option.bind_eq_some_iff.mp H
          simp only at H1
          have HP := Aside0.mk hpl
          by_cases e2 : out.length < 2932031007402
          · rw [if_pos e2] at H1
            simp only [Option.some.injEq, Prod.mk.injEq] at H1
            obtain ⟨rfl, rfl, rfl, rfl⟩ := H1
            have HE := Aside0.mk e2
            clear H hpl e2
            go_wp2_with fail
            refine (penduleref01_Place.calls k1 x x.size l1 p1 _ HP.out).mono ?_
            rintro e w1 ⟨rfl, ⟨n1, rfl⟩⟩
            have RB2 := Aside0.mk (Kd.R_drewN HR.out n1)
            have FB2 := Aside0.mk (blk_drewN HF.out n1)
            have BB2 := Aside0.mk (pw_below_drewN HB.out n1)
            have NEF := Aside0.mk (Kd.R_ne HR.out HF.out (by decide))
            clear HR HF HB HP
            generalize wr.drewN n1 = w3 at *
            have hbsz := BB2.out.size
            go_wp2_with ((with_reducible refine gate_builtin (b := .append) (xs := #[.tmp 66, .tmp 70]) rfl ?_); at_builtin; refine Kd.R_append k32 (w0 := w) w.heap.size rfl (.tmp 66) (.tmp 70) 23 32 (.agg #[(.int .i64 0), (.string ⟨#[]⟩), (.int .i64 0), (.int .i64 0), (.int .i64 0)]) 48 rfl Tryd.underlying23 infoTok rfl (by decide) (by omega) u4 out (⟨6, ⟨#[]⟩, 0, l1, p1⟩ : S32) [.int .i64 6, .string ⟨#[]⟩, .int .i64 0, .int .i64 l1, .int .i64 p1] (fun _ => True) (fun _ => False) rfl rfl ?aP (fun _ hk => hk.elim) ?aF ?aO ?aB ?aS ?aL ?_; (case aP => exact k32_mkM _ _ _ (⟨6, ⟨#[]⟩, 0, l1, p1⟩ : S32)); (case aB => exact BB2.out); (case aF => exact (fun _ _ => trivial)); (case aO => exact RB2.out); (case aS => exact hbsz); (case aL => (have := HE.out; omega)); intro v4 w4 ho hb hg hat; have HO := Aside0.mk ho; have HB4 := Aside0.mk hb; have hF4 := blk_grown FB2.out hg NEF.out; have HF4 := Aside0.mk hF4; have g0 : w4.cell? ⟨w.heap.size, 0, none⟩ = some (.int .i64 0) := (blk_cell hF4 0).trans rfl; have g1 : w4.cell? ⟨w.heap.size, 1, none⟩ = some (.int .i64 0) := (blk_cell hF4 1).trans rfl; have g2 : w4.cell? ⟨w.heap.size, 2, none⟩ = some (.int .i64 0) := (blk_cell hF4 2).trans rfl; have y0 := blk_frozen hF4 0; have y1 := blk_frozen hF4 1; have y2 := blk_frozen hF4 2; clear ho hb hg hat hF4)
            have hs1 := blk_put (cs' := #[.int .i64 0, .int .i64 0, .int .i64 0]) HF4.out 0 (.int .i64 0) rfl
            have hs2 := blk_put (cs' := #[.int .i64 0, .int .i64 0, .int .i64 0]) hs1 1 (.int .i64 0) rfl
            have hs3 := blk_put (cs' := #[.int .i64 0, .int .i64 0, .int .i64 0]) hs2 2 (.int .i64 0) rfl
            refine bodyPost_ret (results_tc rfl _ _ w.heap.size 26 #[.int .i64 0, .int .i64 0, .int .i64 0] (0, 0) _ rfl hs3 Tryd.underlying26 rfl (by kernel_rfl)) rfl ⟨_, rfl, ?_, ?_⟩
            · exact Kd.R_set (Kd.R_set (Kd.R_set HO.out HF4.out (by decide) 0 _) hs1 (by decide) 1 _) hs2 (by decide) 2 _
            · exact below_set (below_set (below_set HB4.out (Nat.le_refl _)) (Nat.le_refl _)) (Nat.le_refl _)
          · rw [if_neg e2] at H1; exact absurd H1 (by simp)
end PScan
end Go.Proofs.YtffeikfffmonkaaDoor
