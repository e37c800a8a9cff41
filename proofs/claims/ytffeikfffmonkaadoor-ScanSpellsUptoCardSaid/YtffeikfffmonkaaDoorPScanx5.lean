-- written by wip/py/pr.py of this repo, by way of the kit's printer
import Derived.Test.YtffeikfffmonkaaDoorPScanx0
namespace Go.Proofs.YtffeikfffmonkaaDoor.PScan
open Go.RowKit Go.Proofs.YtffeikfffmonkaaDoorW.PrintWords Go.Proofs.YtffeikfffmonkaaDoorW.PrintLast Go.Proofs.YtffeikfffmonkaaDoorW.PrintMore
attribute [local go_sem] max2_int min2_int max_two min_two max_three min_three max_four min_four   -- for this text's walks alone
set_option linter.unusedVariables false
set_option linter.unusedSimpArgs false

/-! ### penduleref01_gap: function 25 -/
mutual
def penduleref01_gap.l0 : Nat → ByteArray → Int → Option (Int)
  | 0, _, _ => none
  | k + 1, x0, x3 => if x3 < (x0.size : Int) then (if 0 ≤ x3 then (if (bt x0 x3) = 32 then (penduleref01_gap.j1 k x0 x3 true) else (if (bt x0 x3) = 9 then (penduleref01_gap.j1 k x0 x3 true) else (if (bt x0 x3) = 10 then (penduleref01_gap.j1 k x0 x3 true) else (penduleref01_gap.j1 k x0 x3 ((bt x0 x3) == 13))))) else (none)) else (some x3)
def penduleref01_gap.j1 : Nat → ByteArray → Int → Bool → Option (Int)
  | 0, _, _, _ => none
  | k + 1, x0, x3, x29 => if x29 = true then (penduleref01_gap.l0 k x0 (wrap64 (x3 + 1))) else (if 0 ≤ x3 then (if x3 < (x0.size : Int) then (if (bt x0 x3) = 45 then (if (wrap64 (x3 + 1)) < (x0.size : Int) then (if 0 ≤ (wrap64 (x3 + 1)) then (penduleref01_gap.j2 k x0 x3 ((bt x0 (wrap64 (x3 + 1))) == 45)) else (none)) else (penduleref01_gap.j2 k x0 x3 false)) else (penduleref01_gap.j2 k x0 x3 false)) else (none)) else (none))
def penduleref01_gap.j2 : Nat → ByteArray → Int → Bool → Option (Int)
  | 0, _, _, _ => none
  | k + 1, x0, x3, x49 => if x49 = true then (penduleref01_gap.l1 k x0 x3) else (some x3)
def penduleref01_gap.l1 : Nat → ByteArray → Int → Option (Int)
  | 0, _, _ => none
  | k + 1, x0, x3 => if x3 < (x0.size : Int) then (if 0 ≤ x3 then (if (bt x0 x3) = 10 then (penduleref01_gap.l0 k x0 x3) else (penduleref01_gap.l1 k x0 (wrap64 (x3 + 1)))) else (none)) else (penduleref01_gap.l0 k x0 x3)
end
def penduleref01_gap.f (k : Nat) (a0 : ByteArray) : Option (Int) := penduleref01_gap.l0 k a0 0
theorem penduleref01_gap.mono_l : ∀ k, (∀ y0 y1, LeO (penduleref01_gap.l0 k y0 y1) (penduleref01_gap.l0 (k + 1) y0 y1)) ∧ (∀ y0 y1 y2, LeO (penduleref01_gap.j1 k y0 y1 y2) (penduleref01_gap.j1 (k + 1) y0 y1 y2)) ∧ (∀ y0 y1 y2, LeO (penduleref01_gap.j2 k y0 y1 y2) (penduleref01_gap.j2 (k + 1) y0 y1 y2)) ∧ (∀ y0 y1, LeO (penduleref01_gap.l1 k y0 y1) (penduleref01_gap.l1 (k + 1) y0 y1))
  | 0 => ⟨fun _ _ r h => by simp [penduleref01_gap.l0] at h, fun _ _ _ r h => by simp [penduleref01_gap.j1] at h, fun _ _ _ r h => by simp [penduleref01_gap.j2] at h, fun _ _ r h => by simp [penduleref01_gap.l1] at h⟩
  | k + 1 => by
    obtain ⟨ih0, ih1, ih2, ih3⟩ := penduleref01_gap.mono_l k
    refine ⟨?_, ?_, ?_, ?_⟩
    · intro y0 y1
      unfold penduleref01_gap.l0
      repeat' first
      | (with_reducible exact ih0 _ _)
      | (with_reducible exact ih1 _ _ _)
      | (with_reducible exact ih2 _ _ _)
      | (with_reducible exact ih3 _ _)
      | (with_reducible exact LeO.refl _)
      | (with_reducible exact LeO.none _)
      | (with_reducible refine LeO.ite ?_ ?_)
      | (with_reducible refine LeO.bind ?_ (fun _ => ?_))
      | exact ih0 _ _
      | exact ih1 _ _ _
      | exact ih2 _ _ _
      | exact ih3 _ _
      | exact LeO.none _
      | refine LeO.ite ?_ ?_
      | refine LeO.bind ?_ (fun _ => ?_)
    · intro y0 y1 y2
      unfold penduleref01_gap.j1
      repeat' first
      | (with_reducible exact ih0 _ _)
      | (with_reducible exact ih1 _ _ _)
      | (with_reducible exact ih2 _ _ _)
      | (with_reducible exact ih3 _ _)
      | (with_reducible exact LeO.refl _)
      | (with_reducible exact LeO.none _)
      | (with_reducible refine LeO.ite ?_ ?_)
      | (with_reducible refine LeO.bind ?_ (fun _ => ?_))
      | exact ih0 _ _
      | exact ih1 _ _ _
      | exact ih2 _ _ _
      | exact ih3 _ _
      | exact LeO.none _
      | refine LeO.ite ?_ ?_
      | refine LeO.bind ?_ (fun _ => ?_)
    · intro y0 y1 y2
      unfold penduleref01_gap.j2
      repeat' first
      | (with_reducible exact ih0 _ _)
      | (with_reducible exact ih1 _ _ _)
      | (with_reducible exact ih2 _ _ _)
      | (with_reducible exact ih3 _ _)
      | (with_reducible exact LeO.refl _)
      | (with_reducible exact LeO.none _)
      | (with_reducible refine LeO.ite ?_ ?_)
      | (with_reducible refine LeO.bind ?_ (fun _ => ?_))
      | exact ih0 _ _
      | exact ih1 _ _ _
      | exact ih2 _ _ _
      | exact ih3 _ _
      | exact LeO.none _
      | refine LeO.ite ?_ ?_
      | refine LeO.bind ?_ (fun _ => ?_)
    · intro y0 y1
      unfold penduleref01_gap.l1
      repeat' first
      | (with_reducible exact ih0 _ _)
      | (with_reducible exact ih1 _ _ _)
      | (with_reducible exact ih2 _ _ _)
      | (with_reducible exact ih3 _ _)
      | (with_reducible exact LeO.refl _)
      | (with_reducible exact LeO.none _)
      | (with_reducible refine LeO.ite ?_ ?_)
      | (with_reducible refine LeO.bind ?_ (fun _ => ?_))
      | exact ih0 _ _
      | exact ih1 _ _ _
      | exact ih2 _ _ _
      | exact ih3 _ _
      | exact LeO.none _
      | refine LeO.ite ?_ ?_
      | refine LeO.bind ?_ (fun _ => ?_)
theorem penduleref01_gap.mono : ∀ a0 k, LeO (penduleref01_gap.f k a0) (penduleref01_gap.f (k + 1) a0) := by
  intro a0 k
  obtain ⟨ih0, ih1, ih2, ih3⟩ := penduleref01_gap.mono_l k
  unfold penduleref01_gap.f
  repeat' first
      | (with_reducible exact ih0 _ _)
      | (with_reducible exact ih1 _ _ _)
      | (with_reducible exact ih2 _ _ _)
      | (with_reducible exact ih3 _ _)
      | (with_reducible exact LeO.refl _)
      | (with_reducible exact LeO.none _)
      | (with_reducible refine LeO.ite ?_ ?_)
      | (with_reducible refine LeO.bind ?_ (fun _ => ?_))
      | exact ih0 _ _
      | exact ih1 _ _ _
      | exact ih2 _ _ _
      | exact ih3 _ _
      | exact LeO.none _
      | refine LeO.ite ?_ ?_
      | refine LeO.bind ?_ (fun _ => ?_)
set_option maxHeartbeats 8000000 in
set_option maxRecDepth 100000 in
theorem penduleref01_gap.calls (k : Nat) (a0 : ByteArray) (r : Int) (w : World) (h : penduleref01_gap.f k a0 = some r) :
    Calls Tryd.prog 25 #[.string a0] w fun e w' => e = .returned (.int .i64 r) ∧ Drawn0 w w' := by
  have H : (penduleref01_gap.l0 k a0 0) = some r := h
  clear h
  have H' := Aside0.mk H
  clear H
  go_enter Tryd.func25, Tryd.ntmps25
  go_wp2
  go_loopg [3] k (fun kq v3 w' => ∃ (x3_1 : Int), v3 = .int .i64 x3_1 ∧ Aside0 (penduleref01_gap.l0 kq a0 x3_1 = some r) ∧ Aside0 (kq ≤ k) ∧ Drawn0 w w')
  case atStart => exact ⟨(0), (by first | rfl | (simp; done) | (simp [*]; done)), H', ⟨Nat.le_refl _⟩, by repeat (first | exact Drawn0.refl _ | apply Drawn0.step)⟩
  case round =>
    clear H'
    obtain ⟨x3_1, rfl, HA, HK1, ⟨m1, rfl⟩⟩ := hrel
    cases gk with
    | zero => exact absurd HA.out (by simp [penduleref01_gap.l0])
    | succ k1 =>
      have H := HA.out
      clear HA
      simp only [penduleref01_gap.l0] at H
      by_cases c2 : x3_1 < (a0.size : Int)
      · rw [if_pos c2] at H
        have c2b0 : decide (x3_1 < (a0.size : Int)) = true := decide_eq_true c2
        clear c2
        have HC3 := Aside0.mk H
        clear H
        go_upto_region 3 with (fail)
        go_cut [29] (fun v29 wc => ∃ (kq : Nat) (x29_2 : Bool), v29 = .bool x29_2 ∧ Aside0 (penduleref01_gap.j1 kq a0 x3_1 x29_2 = some r) ∧ Aside0 (kq ≤ k1) ∧ Drawn0 w wc)
        case first =>
          have H := HC3.out
          clear HC3
          by_cases c4 : 0 ≤ x3_1
          · rw [if_pos c4] at H
            have c4b0 : decide (0 ≤ x3_1) = true := decide_eq_true c4
            clear c4
            (first | rw [c4b0] | (simp only [i64_w, i32_w]; rw [c4b0]) | skip)
            by_cases c6 : (bt a0 x3_1) = 32
            · rw [if_pos c6] at H
              have c6b0 : ((bt a0 x3_1) == 32) = true := beq_iff_eq.mpr c6
              have c6b1 : ((bt a0 x3_1) != 32) = false := bne_eq_false_iff_eq.mpr c6
              clear c6
              have H' := Aside0.mk H
              clear H
              have p5 : 0 ≤ (x3_1 : Int) := of_decide_eq_true (by first | (with_reducible assumption) | assumption)
              have q5 : x3_1 < (a0.size : Int) := of_decide_eq_true (by first | (with_reducible assumption) | assumption)
              have hx5 := bt_at a0 x3_1
              replace p5 := eq_true p5
              replace q5 := eq_true q5
              go_wp2
              go_meet
              case rel => exact ⟨_, (true), (by first | rfl | (simp; done) | (simp [*]; done)), H', ⟨by have := HK1.out; first | omega | exact Nat.le_refl _⟩, by repeat (first | exact Drawn0.refl _ | apply Drawn0.step)⟩
            · rw [if_neg c6] at H
              have c6b0 : ((bt a0 x3_1) == 32) = false := beq_eq_false_iff_ne.mpr c6
              have c6b1 : ((bt a0 x3_1) != 32) = true := bne_iff_ne.mpr c6
              by_cases c8 : (bt a0 x3_1) = 9
              · rw [if_pos c8] at H
                have c8b0 : ((bt a0 x3_1) == 9) = true := beq_iff_eq.mpr c8
                have c8b1 : ((bt a0 x3_1) != 9) = false := bne_eq_false_iff_eq.mpr c8
                clear c8
                have H' := Aside0.mk H
                clear H
                have p5 : 0 ≤ (x3_1 : Int) := of_decide_eq_true (by first | (with_reducible assumption) | assumption)
                have q5 : x3_1 < (a0.size : Int) := of_decide_eq_true (by first | (with_reducible assumption) | assumption)
                have hx5 := bt_at a0 x3_1
                replace p5 := eq_true p5
                replace q5 := eq_true q5
                have p7 : 0 ≤ (x3_1 : Int) := of_decide_eq_true (by first | (with_reducible assumption) | assumption)
                have q7 : x3_1 < (a0.size : Int) := of_decide_eq_true (by first | (with_reducible assumption) | assumption)
                have hx7 := bt_at a0 x3_1
                replace p7 := eq_true p7
                replace q7 := eq_true q7
                go_wp2
                go_meet
                case rel => exact ⟨_, (true), (by first | rfl | (simp; done) | (simp [*]; done)), H', ⟨by have := HK1.out; first | omega | exact Nat.le_refl _⟩, by repeat (first | exact Drawn0.refl _ | apply Drawn0.step)⟩
              · rw [if_neg c8] at H
                have c8b0 : ((bt a0 x3_1) == 9) = false := beq_eq_false_iff_ne.mpr c8
                have c8b1 : ((bt a0 x3_1) != 9) = true := bne_iff_ne.mpr c8
                by_cases c10 : (bt a0 x3_1) = 10
                · rw [if_pos c10] at H
                  have c10b0 : ((bt a0 x3_1) == 10) = true := beq_iff_eq.mpr c10
                  have c10b1 : ((bt a0 x3_1) != 10) = false := bne_eq_false_iff_eq.mpr c10
                  clear c10
                  have H' := Aside0.mk H
                  clear H
                  have p5 : 0 ≤ (x3_1 : Int) := of_decide_eq_true (by first | (with_reducible assumption) | assumption)
                  have q5 : x3_1 < (a0.size : Int) := of_decide_eq_true (by first | (with_reducible assumption) | assumption)
                  have hx5 := bt_at a0 x3_1
                  replace p5 := eq_true p5
                  replace q5 := eq_true q5
                  have p7 : 0 ≤ (x3_1 : Int) := of_decide_eq_true (by first | (with_reducible assumption) | assumption)
                  have q7 : x3_1 < (a0.size : Int) := of_decide_eq_true (by first | (with_reducible assumption) | assumption)
                  have hx7 := bt_at a0 x3_1
                  replace p7 := eq_true p7
                  replace q7 := eq_true q7
                  have p9 : 0 ≤ (x3_1 : Int) := of_decide_eq_true (by first | (with_reducible assumption) | assumption)
                  have q9 : x3_1 < (a0.size : Int) := of_decide_eq_true (by first | (with_reducible assumption) | assumption)
                  have hx9 := bt_at a0 x3_1
                  replace p9 := eq_true p9
                  replace q9 := eq_true q9
                  go_wp2
                  go_meet
                  case rel => exact ⟨_, (true), (by first | rfl | (simp; done) | (simp [*]; done)), H', ⟨by have := HK1.out; first | omega | exact Nat.le_refl _⟩, by repeat (first | exact Drawn0.refl _ | apply Drawn0.step)⟩
                · rw [if_neg c10] at H
                  have c10b0 : ((bt a0 x3_1) == 10) = false := beq_eq_false_iff_ne.mpr c10
                  have c10b1 : ((bt a0 x3_1) != 10) = true := bne_iff_ne.mpr c10
                  have H' := Aside0.mk H
                  clear H
                  have p5 : 0 ≤ (x3_1 : Int) := of_decide_eq_true (by first | (with_reducible assumption) | assumption)
                  have q5 : x3_1 < (a0.size : Int) := of_decide_eq_true (by first | (with_reducible assumption) | assumption)
                  have hx5 := bt_at a0 x3_1
                  replace p5 := eq_true p5
                  replace q5 := eq_true q5
                  have p7 : 0 ≤ (x3_1 : Int) := of_decide_eq_true (by first | (with_reducible assumption) | assumption)
                  have q7 : x3_1 < (a0.size : Int) := of_decide_eq_true (by first | (with_reducible assumption) | assumption)
                  have hx7 := bt_at a0 x3_1
                  replace p7 := eq_true p7
                  replace q7 := eq_true q7
                  have p9 : 0 ≤ (x3_1 : Int) := of_decide_eq_true (by first | (with_reducible assumption) | assumption)
                  have q9 : x3_1 < (a0.size : Int) := of_decide_eq_true (by first | (with_reducible assumption) | assumption)
                  have hx9 := bt_at a0 x3_1
                  replace p9 := eq_true p9
                  replace q9 := eq_true q9
                  have p11 : 0 ≤ (x3_1 : Int) := of_decide_eq_true (by first | (with_reducible assumption) | assumption)
                  have q11 : x3_1 < (a0.size : Int) := of_decide_eq_true (by first | (with_reducible assumption) | assumption)
                  have hx11 := bt_at a0 x3_1
                  replace p11 := eq_true p11
                  replace q11 := eq_true q11
                  go_wp2
                  go_meet
                  case rel => exact ⟨_, (((bt a0 x3_1) == 13)), (by first | rfl | (simp; done) | (simp [*]; done)), H', ⟨by have := HK1.out; first | omega | exact Nat.le_refl _⟩, by repeat (first | exact Drawn0.refl _ | apply Drawn0.step)⟩
          · rw [if_neg c4] at H
            exact absurd H (by simp)
        case rest =>
          clear HC3
          try clear c1
          try clear p1
          try clear q1
          try clear hx1
          try clear c2
          try clear c2b0
          try clear p2
          try clear c4
          try clear c4b0
          try clear p5
          try clear q5
          try clear hx5
          try clear c6
          try clear c6b0
          try clear c6b1
          try clear p7
          try clear q7
          try clear hx7
          try clear c8
          try clear c8b0
          try clear c8b1
          try clear p9
          try clear q9
          try clear hx9
          try clear c10
          try clear c10b0
          try clear c10b1
          try clear p11
          try clear q11
          try clear hx11
          try clear p11
          try clear p5
          try clear p7
          try clear p9
          try clear q11
          try clear q5
          try clear q7
          try clear q9
          obtain ⟨kq, x29_2, rfl, HA, HJ2, ⟨mc2, rfl⟩⟩ := hcut
          cases kq with
          | zero => exact absurd HA.out (by simp [penduleref01_gap.j1])
          | succ kj2 =>
            have H := HA.out
            clear HA
            simp only [penduleref01_gap.j1] at H
            by_cases c12 : x29_2 = true
            · subst c12
              have H1 : (penduleref01_gap.l0 kj2 a0 (wrap64 (x3_1 + 1))) = some r := by rw [if_pos rfl] at H; exact H
              clear H
              have H := H1
              clear H1
              have H' := Aside0.mk H
              clear H
              go_wp2
              go_roundg kj2
              case measure => have := HK1.out; have := HJ2.out; omega
              case rel => exact ⟨(wrap64 (x3_1 + 1)), (by first | rfl | (simp; done) | (simp [*]; done)), H', ⟨by have := HK1.out; have := HJ2.out; omega⟩, by repeat (first | exact Drawn0.refl _ | apply Drawn0.step)⟩
            · replace c12 := Bool.eq_false_iff.mpr c12
              subst c12
              have H1 : (if 0 ≤ x3_1 then (if x3_1 < (a0.size : Int) then (if (bt a0 x3_1) = 45 then (if (wrap64 (x3_1 + 1)) < (a0.size : Int) then (if 0 ≤ (wrap64 (x3_1 + 1)) then (penduleref01_gap.j2 kj2 a0 x3_1 ((bt a0 (wrap64 (x3_1 + 1))) == 45)) else (none)) else (penduleref01_gap.j2 kj2 a0 x3_1 false)) else (penduleref01_gap.j2 kj2 a0 x3_1 false)) else (none)) else (none)) = some r := by rw [if_neg (show ¬ (false = true) by decide)] at H; exact H
              clear H
              have H := H1
              clear H1
              have HC13 := Aside0.mk H
              clear H
              go_upto_region 5 with (fail)
              go_cut [49] (fun v49 wc => ∃ (kq : Nat) (x49_12 : Bool), v49 = .bool x49_12 ∧ Aside0 (penduleref01_gap.j2 kq a0 x3_1 x49_12 = some r) ∧ Aside0 (kq ≤ kj2) ∧ Drawn0 w wc)
              case first =>
                have H := HC13.out
                clear HC13
                by_cases c14 : 0 ≤ x3_1
                · rw [if_pos c14] at H
                  have c14b0 : decide (0 ≤ x3_1) = true := decide_eq_true c14
                  clear c14
                  (first | rw [c14b0] | (simp only [i64_w, i32_w]; rw [c14b0]) | skip)
                  by_cases c15 : x3_1 < (a0.size : Int)
                  · rw [if_pos c15] at H
                    have c15b0 : decide (x3_1 < (a0.size : Int)) = true := decide_eq_true c15
                    clear c15
                    by_cases c17 : (bt a0 x3_1) = 45
                    · rw [if_pos c17] at H
                      have c17b0 : ((bt a0 x3_1) == 45) = true := beq_iff_eq.mpr c17
                      have c17b1 : ((bt a0 x3_1) != 45) = false := bne_eq_false_iff_eq.mpr c17
                      clear c17
                      by_cases c18 : (wrap64 (x3_1 + 1)) < (a0.size : Int)
                      · rw [if_pos c18] at H
                        have c18b0 : decide ((wrap64 (x3_1 + 1)) < (a0.size : Int)) = true := decide_eq_true c18
                        clear c18
                        obtain ⟨ji19, hji19⟩ : ∃ j_ : Int, (wrap64 (x3_1 + 1)) = j_ := ⟨_, rfl⟩
                        replace H : (if 0 ≤ (ji19) then (penduleref01_gap.j2 kj2 a0 x3_1 ((bt a0 (ji19)) == 45)) else (none)) = some r := by first | (rw [hji19] at H; exact H) | (simp only [hji19] at H ⊢; exact H)
                        (try rw [hji19] at c18b0)
                        have hji19w : (IntKind.i64.wrap (x3_1 + 1)) = ji19 := (i64_w _).trans hji19
                        by_cases c20 : 0 ≤ (ji19)
                        · rw [if_pos c20] at H
                          have c20b0 : decide (0 ≤ (ji19)) = true := decide_eq_true c20
                          clear c20
                          have H' := Aside0.mk H
                          clear H
                          have p16 : 0 ≤ (x3_1 : Int) := of_decide_eq_true (by first | (with_reducible assumption) | assumption)
                          have q16 : x3_1 < (a0.size : Int) := of_decide_eq_true (by first | (with_reducible assumption) | assumption)
                          have hx16 := bt_at a0 x3_1
                          replace p16 := eq_true p16
                          replace q16 := eq_true q16
                          have p21 : 0 ≤ ((ji19) : Int) := of_decide_eq_true (by first | (with_reducible assumption) | assumption)
                          have q21 : (ji19) < (a0.size : Int) := of_decide_eq_true (by first | (with_reducible assumption) | assumption)
                          have hx21 := bt_at a0 (ji19)
                          replace p21 := eq_true p21
                          replace q21 := eq_true q21
                          go_wp2
                          go_meet
                          case rel => exact ⟨_, (((bt a0 (ji19)) == 45)), (by first | rfl | (simp; done) | (simp only [← hji19] <;> (first | rfl | simp)) | (simp [*]; done)), H', ⟨by have := HK1.out; have := HJ2.out; first | omega | exact Nat.le_refl _⟩, by repeat (first | exact Drawn0.refl _ | apply Drawn0.step)⟩
                        · rw [if_neg c20] at H
                          exact absurd H (by simp)
                      · rw [if_neg c18] at H
                        have c18b0 : decide ((wrap64 (x3_1 + 1)) < (a0.size : Int)) = false := decide_eq_false c18
                        clear c18
                        have H' := Aside0.mk H
                        clear H
                        have p16 : 0 ≤ (x3_1 : Int) := of_decide_eq_true (by first | (with_reducible assumption) | assumption)
                        have q16 : x3_1 < (a0.size : Int) := of_decide_eq_true (by first | (with_reducible assumption) | assumption)
                        have hx16 := bt_at a0 x3_1
                        replace p16 := eq_true p16
                        replace q16 := eq_true q16
                        go_wp2
                        go_meet
                        case rel => exact ⟨_, (false), (by first | rfl | (simp; done) | (simp [*]; done)), H', ⟨by have := HK1.out; have := HJ2.out; first | omega | exact Nat.le_refl _⟩, by repeat (first | exact Drawn0.refl _ | apply Drawn0.step)⟩
                    · rw [if_neg c17] at H
                      have c17b0 : ((bt a0 x3_1) == 45) = false := beq_eq_false_iff_ne.mpr c17
                      have c17b1 : ((bt a0 x3_1) != 45) = true := bne_iff_ne.mpr c17
                      have H' := Aside0.mk H
                      clear H
                      have p16 : 0 ≤ (x3_1 : Int) := of_decide_eq_true (by first | (with_reducible assumption) | assumption)
                      have q16 : x3_1 < (a0.size : Int) := of_decide_eq_true (by first | (with_reducible assumption) | assumption)
                      have hx16 := bt_at a0 x3_1
                      replace p16 := eq_true p16
                      replace q16 := eq_true q16
                      go_wp2
                      go_meet
                      case rel => exact ⟨_, (false), (by first | rfl | (simp; done) | (simp [*]; done)), H', ⟨by have := HK1.out; have := HJ2.out; first | omega | exact Nat.le_refl _⟩, by repeat (first | exact Drawn0.refl _ | apply Drawn0.step)⟩
                  · rw [if_neg c15] at H
                    exact absurd H (by simp)
                · rw [if_neg c14] at H
                  exact absurd H (by simp)
              case rest =>
                clear HC13
                try clear c1
                try clear p1
                try clear q1
                try clear hx1
                try clear c2
                try clear c2b0
                try clear p2
                try clear q2
                try clear hx2
                try clear c4
                try clear c4b0
                try clear p5
                try clear q5
                try clear hx5
                try clear c6
                try clear c6b0
                try clear c6b1
                try clear p6
                try clear p7
                try clear q7
                try clear hx7
                try clear c8
                try clear c8b0
                try clear c8b1
                try clear p9
                try clear q9
                try clear hx9
                try clear c10
                try clear c10b0
                try clear c10b1
                try clear p11
                try clear q11
                try clear hx11
                try clear c12
                try clear c14
                try clear c14b0
                try clear c15
                try clear c15b0
                try clear p16
                try clear q16
                try clear hx16
                try clear c17
                try clear c17b0
                try clear c17b1
                try clear c18
                try clear c18b0
                try clear c20
                try clear c20b0
                try clear p21
                try clear q21
                try clear hx21
                try clear p1
                try clear p11
                try clear p16
                try clear p2
                try clear p21
                try clear p5
                try clear p7
                try clear p9
                try clear q1
                try clear q11
                try clear q16
                try clear q21
                try clear q5
                try clear q7
                try clear q9
                obtain ⟨kq, x49_12, rfl, HA, HJ12, ⟨mc12, rfl⟩⟩ := hcut
                cases kq with
                | zero => exact absurd HA.out (by simp [penduleref01_gap.j2])
                | succ kj12 =>
                  have H := HA.out
                  clear HA
                  simp only [penduleref01_gap.j2] at H
                  by_cases c22 : x49_12 = true
                  · subst c22
                    have H1 : (penduleref01_gap.l1 kj12 a0 x3_1) = some r := by rw [if_pos rfl] at H; exact H
                    clear H
                    have H := H1
                    clear H1
                    have H' := Aside0.mk H
                    clear H
                    go_wp2
                    go_loopg [3] kj12 (fun kq v3 w' => ∃ (x3_4 : Int), v3 = .int .i64 x3_4 ∧ Aside0 (penduleref01_gap.l1 kq a0 x3_4 = some r) ∧ Aside0 (kq ≤ kj12) ∧ Drawn0 w w')
                    case atStart => exact ⟨(x3_1), (by first | rfl | (simp; done) | (simp [*]; done)), H', ⟨Nat.le_refl _⟩, by repeat (first | exact Drawn0.refl _ | apply Drawn0.step)⟩
                    case round =>
                      clear H'
                      try clear c1
                      try clear p1
                      try clear q1
                      try clear hx1
                      try clear c2
                      try clear c2b0
                      try clear p2
                      try clear q2
                      try clear hx2
                      try clear c4
                      try clear c4b0
                      try clear p5
                      try clear q5
                      try clear hx5
                      try clear c6
                      try clear c6b0
                      try clear c6b1
                      try clear p6
                      try clear p7
                      try clear q7
                      try clear hx7
                      try clear c8
                      try clear c8b0
                      try clear c8b1
                      try clear p9
                      try clear q9
                      try clear hx9
                      try clear c10
                      try clear c10b0
                      try clear c10b1
                      try clear p11
                      try clear q11
                      try clear hx11
                      try clear c12
                      try clear c14
                      try clear c14b0
                      try clear c15
                      try clear c15b0
                      try clear p16
                      try clear q16
                      try clear hx16
                      try clear c17
                      try clear c17b0
                      try clear c17b1
                      try clear c18
                      try clear c18b0
                      try clear c20
                      try clear c20b0
                      try clear p21
                      try clear q21
                      try clear hx21
                      try clear c22
                      try clear p1
                      try clear p11
                      try clear p16
                      try clear p2
                      try clear p21
                      try clear p5
                      try clear p6
                      try clear p7
                      try clear p9
                      try clear q1
                      try clear q11
                      try clear q16
                      try clear q2
                      try clear q21
                      try clear q5
                      try clear q7
                      try clear q9
                      obtain ⟨x3_4, rfl, HA, HK4, ⟨m4, rfl⟩⟩ := hrel
                      cases gk with
                      | zero => exact absurd HA.out (by simp [penduleref01_gap.l1])
                      | succ k4 =>
                        have H := HA.out
                        clear HA
                        simp only [penduleref01_gap.l1] at H
                        by_cases c23 : x3_4 < (a0.size : Int)
                        · rw [if_pos c23] at H
                          have c23b0 : decide (x3_4 < (a0.size : Int)) = true := decide_eq_true c23
                          clear c23
                          by_cases c24 : 0 ≤ x3_4
                          · rw [if_pos c24] at H
                            have c24b0 : decide (0 ≤ x3_4) = true := decide_eq_true c24
                            clear c24
                            by_cases c26 : (bt a0 x3_4) = 10
                            · rw [if_pos c26] at H
                              have c26b0 : ((bt a0 x3_4) == 10) = true := beq_iff_eq.mpr c26
                              have c26b1 : ((bt a0 x3_4) != 10) = false := bne_eq_false_iff_eq.mpr c26
                              clear c26
                              have H' := Aside0.mk H
                              clear H
                              have p25 : 0 ≤ (x3_4 : Int) := of_decide_eq_true (by first | (with_reducible assumption) | assumption)
                              have q25 : x3_4 < (a0.size : Int) := of_decide_eq_true (by first | (with_reducible assumption) | assumption)
                              have hx25 := bt_at a0 x3_4
                              replace p25 := eq_true p25
                              replace q25 := eq_true q25
                              go_wp2
                              go_roundg k4
                              case measure => have := HK1.out; have := HJ2.out; have := HJ12.out; have := HK4.out; omega
                              case rel => exact ⟨(x3_4), (by first | rfl | (simp; done) | (simp [*]; done)), H', ⟨by have := HK1.out; have := HJ2.out; have := HJ12.out; have := HK4.out; omega⟩, by repeat (first | exact Drawn0.refl _ | apply Drawn0.step)⟩
                            · rw [if_neg c26] at H
                              have c26b0 : ((bt a0 x3_4) == 10) = false := beq_eq_false_iff_ne.mpr c26
                              have c26b1 : ((bt a0 x3_4) != 10) = true := bne_iff_ne.mpr c26
                              have H' := Aside0.mk H
                              clear H
                              have p25 : 0 ≤ (x3_4 : Int) := of_decide_eq_true (by first | (with_reducible assumption) | assumption)
                              have q25 : x3_4 < (a0.size : Int) := of_decide_eq_true (by first | (with_reducible assumption) | assumption)
                              have hx25 := bt_at a0 x3_4
                              replace p25 := eq_true p25
                              replace q25 := eq_true q25
                              go_wp2
                              go_roundg k4
                              case measure => have := HK1.out; have := HJ2.out; have := HJ12.out; have := HK4.out; omega
                              case rel => exact ⟨(wrap64 (x3_4 + 1)), (by first | rfl | (simp; done) | (simp [*]; done)), H', ⟨by have := HK1.out; have := HJ2.out; have := HJ12.out; have := HK4.out; omega⟩, by repeat (first | exact Drawn0.refl _ | apply Drawn0.step)⟩
                          · rw [if_neg c24] at H
                            exact absurd H (by simp)
                        · rw [if_neg c23] at H
                          have c23b0 : decide (x3_4 < (a0.size : Int)) = false := decide_eq_false c23
                          clear c23
                          have H' := Aside0.mk H
                          clear H
                          go_wp2
                          go_roundg k4
                          case measure => have := HK1.out; have := HJ2.out; have := HJ12.out; have := HK4.out; omega
                          case rel => exact ⟨(x3_4), (by first | rfl | (simp; done) | (simp [*]; done)), H', ⟨by have := HK1.out; have := HJ2.out; have := HJ12.out; have := HK4.out; omega⟩, by repeat (first | exact Drawn0.refl _ | apply Drawn0.step)⟩
                  · replace c22 := Bool.eq_false_iff.mpr c22
                    subst c22
                    have H1 : (some x3_1) = some r := by rw [if_neg (show ¬ (false = true) by decide)] at H; exact H
                    clear H
                    have H := H1
                    clear H1
                    obtain rfl := Option.some.inj H
                    go_wp2
                    go_ret
                    exact ⟨by first | rfl | (simp; done) | (simp [*]; done), by repeat (first | exact Drawn0.refl _ | apply Drawn0.step)⟩
      · rw [if_neg c2] at H
        have c2b0 : decide (x3_1 < (a0.size : Int)) = false := decide_eq_false c2
        clear c2
        obtain rfl := Option.some.inj H
        go_wp2
        go_ret
        exact ⟨by first | rfl | (simp; done) | (simp [*]; done), by repeat (first | exact Drawn0.refl _ | apply Drawn0.step)⟩

/-! ### penduleref01_Has: function 35 -/
def penduleref01_Has.l0 : Nat → List ByteArray → ByteArray → Int → Option (Bool)
  | 0, _, _, _ => none
  | k + 1, x0, x1, x5 => if x5 < (x0.length : Int) then (if 0 ≤ x5 then (if (rdOf ByteArray.empty x0 x5).toList = x1.toList then (some true) else (penduleref01_Has.l0 k x0 x1 (wrap64 (x5 + 1)))) else (none)) else (some false)
def penduleref01_Has.f (k : Nat) (l0 : List ByteArray) (a1 : ByteArray) : Option (Bool) := penduleref01_Has.l0 k l0 a1 0
theorem penduleref01_Has.mono_l : ∀ k, (∀ y0 y1 y2, LeO (penduleref01_Has.l0 k y0 y1 y2) (penduleref01_Has.l0 (k + 1) y0 y1 y2))
  | 0 => fun _ _ _ r h => by simp [penduleref01_Has.l0] at h
  | k + 1 => by
    have ih0 := penduleref01_Has.mono_l k
    · intro y0 y1 y2
      unfold penduleref01_Has.l0
      repeat' first
      | (with_reducible exact ih0 _ _ _)
      | (with_reducible exact LeO.refl _)
      | (with_reducible exact LeO.none _)
      | (with_reducible refine LeO.ite ?_ ?_)
      | (with_reducible refine LeO.bind ?_ (fun _ => ?_))
      | exact ih0 _ _ _
      | exact LeO.none _
      | refine LeO.ite ?_ ?_
      | refine LeO.bind ?_ (fun _ => ?_)
theorem penduleref01_Has.mono : ∀ a0 a1 k, LeO (penduleref01_Has.f k a0 a1) (penduleref01_Has.f (k + 1) a0 a1) := by
  intro a0 a1 k
  have ih0 := penduleref01_Has.mono_l k
  unfold penduleref01_Has.f
  repeat' first
      | (with_reducible exact ih0 _ _ _)
      | (with_reducible exact LeO.refl _)
      | (with_reducible exact LeO.none _)
      | (with_reducible refine LeO.ite ?_ ?_)
      | (with_reducible refine LeO.bind ?_ (fun _ => ?_))
      | exact ih0 _ _ _
      | exact LeO.none _
      | refine LeO.ite ?_ ?_
      | refine LeO.bind ?_ (fun _ => ?_)
set_option maxHeartbeats 8000000 in
set_option maxRecDepth 100000 in
theorem penduleref01_Has.calls (k : Nat) (A0 : Option Addr) (c0 : Nat) (l0 : List ByteArray) (a1 : ByteArray) (r : Bool) (w : World) (hr0 : Kd.C Kd.string w A0 l0.length l0) (hc0 : l0.length ≤ c0) (h : penduleref01_Has.f k l0 a1 = some r) :
    Calls Tryd.prog 35 #[.slice A0 l0.length c0, .string a1] w fun e w' => e = .returned (.bool r) ∧ Drawn0 w w' := by
  have HR0 := Aside0.mk hr0
  have HC0 := Aside0.mk hc0
  clear hr0 hc0
  have H : (penduleref01_Has.l0 k l0 a1 0) = some r := h
  clear h
  have H' := Aside0.mk H
  clear H
  go_enter Tryd.func35, Tryd.ntmps35
  go_wp2
  go_loopg [5] k (fun kq v5 w' => ∃ (x5_1 : Int), v5 = .int .i64 x5_1 ∧ Aside0 (penduleref01_Has.l0 kq l0 a1 x5_1 = some r) ∧ Aside0 (kq ≤ k) ∧ Drawn0 w w')
  case atStart => exact ⟨(0), (by first | rfl | (simp; done) | (simp [*]; done)), H', ⟨Nat.le_refl _⟩, by repeat (first | exact Drawn0.refl _ | apply Drawn0.step)⟩
  case round =>
    clear H'
    try clear p2
    obtain ⟨x5_1, rfl, HA, HK1, ⟨m1, rfl⟩⟩ := hrel
    cases gk with
    | zero => exact absurd HA.out (by simp [penduleref01_Has.l0])
    | succ k1 =>
      have H := HA.out
      clear HA
      simp only [penduleref01_Has.l0] at H
      by_cases c3 : x5_1 < (l0.length : Int)
      · rw [if_pos c3] at H
        have c3b0 : decide (x5_1 < (l0.length : Int)) = true := decide_eq_true c3
        clear c3
        by_cases c4 : 0 ≤ x5_1
        · rw [if_pos c4] at H
          have c4b0 : decide (0 ≤ x5_1) = true := decide_eq_true c4
          clear c4
          by_cases c5 : (rdOf ByteArray.empty l0 x5_1).toList = a1.toList
          · rw [if_pos c5] at H
            have c5b0 : ((rdOf ByteArray.empty l0 x5_1).toList == a1.toList) = true := beq_iff_eq.mpr c5
            have c5b1 : ((rdOf ByteArray.empty l0 x5_1).toList != a1.toList) = false := bne_eq_false_iff_eq.mpr c5
            clear c5
            obtain rfl := Option.some.inj H
            have p111 : 0 ≤ (x5_1 : Int) := of_decide_eq_true (by first | (with_reducible assumption) | assumption)
            have q111 : x5_1 < (l0.length : Int) := of_decide_eq_true (by first | (with_reducible assumption) | assumption)
            obtain ⟨ad111, e111, hx111_0⟩ := Kd.at_string HR0.out x5_1 p111 q111
            cases e111
            replace p111 := eq_true p111
            replace q111 := eq_true q111
            go_wp2
            go_ret
            exact ⟨by first | rfl | (simp; done) | (simp [*]; done), by repeat (first | exact Drawn0.refl _ | apply Drawn0.step)⟩
          · rw [if_neg c5] at H
            have c5b0 : ((rdOf ByteArray.empty l0 x5_1).toList == a1.toList) = false := beq_eq_false_iff_ne.mpr c5
            have c5b1 : ((rdOf ByteArray.empty l0 x5_1).toList != a1.toList) = true := bne_iff_ne.mpr c5
            have H' := Aside0.mk H
            clear H
            have p111 : 0 ≤ (x5_1 : Int) := of_decide_eq_true (by first | (with_reducible assumption) | assumption)
            have q111 : x5_1 < (l0.length : Int) := of_decide_eq_true (by first | (with_reducible assumption) | assumption)
            obtain ⟨ad111, e111, hx111_0⟩ := Kd.at_string HR0.out x5_1 p111 q111
            cases e111
            replace p111 := eq_true p111
            replace q111 := eq_true q111
            go_wp2
            go_roundg k1
            case measure => have := HK1.out; omega
            case rel => exact ⟨(wrap64 (x5_1 + 1)), (by first | rfl | (simp; done) | (simp [*]; done)), H', ⟨by have := HK1.out; omega⟩, by repeat (first | exact Drawn0.refl _ | apply Drawn0.step)⟩
        · rw [if_neg c4] at H
          exact absurd H (by simp)
      · rw [if_neg c3] at H
        have c3b0 : decide (x5_1 < (l0.length : Int)) = false := decide_eq_false c3
        clear c3
        obtain rfl := Option.some.inj H
        go_wp2
        go_ret
        exact ⟨by first | rfl | (simp; done) | (simp [*]; done), by repeat (first | exact Drawn0.refl _ | apply Drawn0.step)⟩

/-! ### penduleref01_Words: function 36 -/
def penduleref01_Words.f  : Option (List ByteArray) := some (([(⟨#[116, 121, 112, 101]⟩ : ByteArray), (⟨#[110, 111, 100, 101]⟩ : ByteArray), (⟨#[119, 104, 101, 114, 101]⟩ : ByteArray), (⟨#[101, 110, 100]⟩ : ByteArray), (⟨#[97, 117, 116, 111, 109, 97, 116, 111, 110]⟩ : ByteArray), (⟨#[115, 116, 97, 116, 101]⟩ : ByteArray), (⟨#[117, 110, 116, 105, 108]⟩ : ByteArray), (⟨#[116, 104, 101, 110]⟩ : ByteArray), (⟨#[105, 102]⟩ : ByteArray), (⟨#[101, 108, 115, 101]⟩ : ByteArray), (⟨#[102, 98, 121]⟩ : ByteArray), (⟨#[112, 114, 101]⟩ : ByteArray), (⟨#[110, 111, 116]⟩ : ByteArray), (⟨#[97, 110, 100]⟩ : ByteArray), (⟨#[111, 114]⟩ : ByteArray), (⟨#[119, 104, 101, 110]⟩ : ByteArray), (⟨#[109, 101, 114, 103, 101]⟩ : ByteArray), (⟨#[109, 97, 116, 99, 104]⟩ : ByteArray), (⟨#[101, 118, 101, 114, 121]⟩ : ByteArray), (⟨#[116, 114, 117, 101]⟩ : ByteArray), (⟨#[102, 97, 108, 115, 101]⟩ : ByteArray)] : List ByteArray))
set_option maxHeartbeats 8000000 in
set_option maxRecDepth 100000 in
theorem penduleref01_Words.calls  (r : List ByteArray) (w : World) (h : penduleref01_Words.f  = some r) :
    Calls Tryd.prog 36 #[] w fun e w' => ∃ v0_ : Value, e = .returned (v0_) ∧ Kd.R Kd.string 9 w' w.heap.size (fun _ => True) v0_ r ∧ Below w.heap.size w w' := by
  have HB := Aside0.mk (Below.refl w.heap.size w)
  have H : (some (([(⟨#[116, 121, 112, 101]⟩ : ByteArray), (⟨#[110, 111, 100, 101]⟩ : ByteArray), (⟨#[119, 104, 101, 114, 101]⟩ : ByteArray), (⟨#[101, 110, 100]⟩ : ByteArray), (⟨#[97, 117, 116, 111, 109, 97, 116, 111, 110]⟩ : ByteArray), (⟨#[115, 116, 97, 116, 101]⟩ : ByteArray), (⟨#[117, 110, 116, 105, 108]⟩ : ByteArray), (⟨#[116, 104, 101, 110]⟩ : ByteArray), (⟨#[105, 102]⟩ : ByteArray), (⟨#[101, 108, 115, 101]⟩ : ByteArray), (⟨#[102, 98, 121]⟩ : ByteArray), (⟨#[112, 114, 101]⟩ : ByteArray), (⟨#[110, 111, 116]⟩ : ByteArray), (⟨#[97, 110, 100]⟩ : ByteArray), (⟨#[111, 114]⟩ : ByteArray), (⟨#[119, 104, 101, 110]⟩ : ByteArray), (⟨#[109, 101, 114, 103, 101]⟩ : ByteArray), (⟨#[109, 97, 116, 99, 104]⟩ : ByteArray), (⟨#[101, 118, 101, 114, 121]⟩ : ByteArray), (⟨#[116, 114, 117, 101]⟩ : ByteArray), (⟨#[102, 97, 108, 115, 101]⟩ : ByteArray)] : List ByteArray))) = some r := h
  clear h
  obtain ⟨y112, hy112⟩ : ∃ y_ : List ByteArray, y_ = (([(⟨#[116, 121, 112, 101]⟩ : ByteArray), (⟨#[110, 111, 100, 101]⟩ : ByteArray), (⟨#[119, 104, 101, 114, 101]⟩ : ByteArray), (⟨#[101, 110, 100]⟩ : ByteArray), (⟨#[97, 117, 116, 111, 109, 97, 116, 111, 110]⟩ : ByteArray), (⟨#[115, 116, 97, 116, 101]⟩ : ByteArray), (⟨#[117, 110, 116, 105, 108]⟩ : ByteArray), (⟨#[116, 104, 101, 110]⟩ : ByteArray), (⟨#[105, 102]⟩ : ByteArray), (⟨#[101, 108, 115, 101]⟩ : ByteArray), (⟨#[102, 98, 121]⟩ : ByteArray), (⟨#[112, 114, 101]⟩ : ByteArray), (⟨#[110, 111, 116]⟩ : ByteArray), (⟨#[97, 110, 100]⟩ : ByteArray), (⟨#[111, 114]⟩ : ByteArray), (⟨#[119, 104, 101, 110]⟩ : ByteArray), (⟨#[109, 101, 114, 103, 101]⟩ : ByteArray), (⟨#[109, 97, 116, 99, 104]⟩ : ByteArray), (⟨#[101, 118, 101, 114, 121]⟩ : ByteArray), (⟨#[116, 114, 117, 101]⟩ : ByteArray), (⟨#[102, 97, 108, 115, 101]⟩ : ByteArray)] : List ByteArray)) := ⟨_, rfl⟩
  replace H : (some y112) = some r := by first | (rw [hy112]; with_reducible exact H) | (have H2_ := (Option.bind_some _ _).symm.trans H; rw [hy112]; with_reducible exact H2_) | (have H2_ := (Option.bind_some _ _).symm.trans H; with_reducible exact H2_) | with_reducible exact H | (rw [hy112]; exact H) | exact H
  have Ny112 := Aside0.mk hy112
  clear hy112
  obtain rfl := Option.some.inj H
  go_enter Tryd.func36, Tryd.ntmps36
  go_wp2_with (first | ((with_reducible refine gate_dst (N := 1) rfl ?_); refine Kd.R_lit Kd.string _ 9 ?hg (N := 1) ?hd (xs := ([(⟨#[116, 121, 112, 101]⟩ : ByteArray), (⟨#[110, 111, 100, 101]⟩ : ByteArray), (⟨#[119, 104, 101, 114, 101]⟩ : ByteArray), (⟨#[101, 110, 100]⟩ : ByteArray), (⟨#[97, 117, 116, 111, 109, 97, 116, 111, 110]⟩ : ByteArray), (⟨#[115, 116, 97, 116, 101]⟩ : ByteArray), (⟨#[117, 110, 116, 105, 108]⟩ : ByteArray), (⟨#[116, 104, 101, 110]⟩ : ByteArray), (⟨#[105, 102]⟩ : ByteArray), (⟨#[101, 108, 115, 101]⟩ : ByteArray), (⟨#[102, 98, 121]⟩ : ByteArray), (⟨#[112, 114, 101]⟩ : ByteArray), (⟨#[110, 111, 116]⟩ : ByteArray), (⟨#[97, 110, 100]⟩ : ByteArray), (⟨#[111, 114]⟩ : ByteArray), (⟨#[119, 104, 101, 110]⟩ : ByteArray), (⟨#[109, 101, 114, 103, 101]⟩ : ByteArray), (⟨#[109, 97, 116, 99, 104]⟩ : ByteArray), (⟨#[101, 118, 101, 114, 121]⟩ : ByteArray), (⟨#[116, 114, 117, 101]⟩ : ByteArray), (⟨#[102, 97, 108, 115, 101]⟩ : ByteArray)] : List ByteArray)) (inner := [.string (⟨#[116, 121, 112, 101]⟩ : ByteArray), .string (⟨#[110, 111, 100, 101]⟩ : ByteArray), .string (⟨#[119, 104, 101, 114, 101]⟩ : ByteArray), .string (⟨#[101, 110, 100]⟩ : ByteArray), .string (⟨#[97, 117, 116, 111, 109, 97, 116, 111, 110]⟩ : ByteArray), .string (⟨#[115, 116, 97, 116, 101]⟩ : ByteArray), .string (⟨#[117, 110, 116, 105, 108]⟩ : ByteArray), .string (⟨#[116, 104, 101, 110]⟩ : ByteArray), .string (⟨#[105, 102]⟩ : ByteArray), .string (⟨#[101, 108, 115, 101]⟩ : ByteArray), .string (⟨#[102, 98, 121]⟩ : ByteArray), .string (⟨#[112, 114, 101]⟩ : ByteArray), .string (⟨#[110, 111, 116]⟩ : ByteArray), .string (⟨#[97, 110, 100]⟩ : ByteArray), .string (⟨#[111, 114]⟩ : ByteArray), .string (⟨#[119, 104, 101, 110]⟩ : ByteArray), .string (⟨#[109, 101, 114, 103, 101]⟩ : ByteArray), .string (⟨#[109, 97, 116, 99, 104]⟩ : ByteArray), .string (⟨#[101, 118, 101, 114, 121]⟩ : ByteArray), .string (⟨#[116, 114, 117, 101]⟩ : ByteArray), .string (⟨#[102, 97, 108, 115, 101]⟩ : ByteArray)]) (ok := fun _ => True) (okp := fun _ => True) ?hr ?hp (fun _ hk => hk) trivial (Below.refl _ _) (Nat.le_refl _) (by simp) ?_; (case hd => rfl); (case hg => rfl); (case hr => first | (go_simp; done) | (go_simp; rfl)); (case hp => exact (Reps.one (show Kd.M Kd.string _ _ _ (⟨#[116, 121, 112, 101]⟩ : ByteArray) [.string (⟨#[116, 121, 112, 101]⟩ : ByteArray)] from rfl) (Reps.one (show Kd.M Kd.string _ _ _ (⟨#[110, 111, 100, 101]⟩ : ByteArray) [.string (⟨#[110, 111, 100, 101]⟩ : ByteArray)] from rfl) (Reps.one (show Kd.M Kd.string _ _ _ (⟨#[119, 104, 101, 114, 101]⟩ : ByteArray) [.string (⟨#[119, 104, 101, 114, 101]⟩ : ByteArray)] from rfl) (Reps.one (show Kd.M Kd.string _ _ _ (⟨#[101, 110, 100]⟩ : ByteArray) [.string (⟨#[101, 110, 100]⟩ : ByteArray)] from rfl) (Reps.one (show Kd.M Kd.string _ _ _ (⟨#[97, 117, 116, 111, 109, 97, 116, 111, 110]⟩ : ByteArray) [.string (⟨#[97, 117, 116, 111, 109, 97, 116, 111, 110]⟩ : ByteArray)] from rfl) (Reps.one (show Kd.M Kd.string _ _ _ (⟨#[115, 116, 97, 116, 101]⟩ : ByteArray) [.string (⟨#[115, 116, 97, 116, 101]⟩ : ByteArray)] from rfl) (Reps.one (show Kd.M Kd.string _ _ _ (⟨#[117, 110, 116, 105, 108]⟩ : ByteArray) [.string (⟨#[117, 110, 116, 105, 108]⟩ : ByteArray)] from rfl) (Reps.one (show Kd.M Kd.string _ _ _ (⟨#[116, 104, 101, 110]⟩ : ByteArray) [.string (⟨#[116, 104, 101, 110]⟩ : ByteArray)] from rfl) (Reps.one (show Kd.M Kd.string _ _ _ (⟨#[105, 102]⟩ : ByteArray) [.string (⟨#[105, 102]⟩ : ByteArray)] from rfl) (Reps.one (show Kd.M Kd.string _ _ _ (⟨#[101, 108, 115, 101]⟩ : ByteArray) [.string (⟨#[101, 108, 115, 101]⟩ : ByteArray)] from rfl) (Reps.one (show Kd.M Kd.string _ _ _ (⟨#[102, 98, 121]⟩ : ByteArray) [.string (⟨#[102, 98, 121]⟩ : ByteArray)] from rfl) (Reps.one (show Kd.M Kd.string _ _ _ (⟨#[112, 114, 101]⟩ : ByteArray) [.string (⟨#[112, 114, 101]⟩ : ByteArray)] from rfl) (Reps.one (show Kd.M Kd.string _ _ _ (⟨#[110, 111, 116]⟩ : ByteArray) [.string (⟨#[110, 111, 116]⟩ : ByteArray)] from rfl) (Reps.one (show Kd.M Kd.string _ _ _ (⟨#[97, 110, 100]⟩ : ByteArray) [.string (⟨#[97, 110, 100]⟩ : ByteArray)] from rfl) (Reps.one (show Kd.M Kd.string _ _ _ (⟨#[111, 114]⟩ : ByteArray) [.string (⟨#[111, 114]⟩ : ByteArray)] from rfl) (Reps.one (show Kd.M Kd.string _ _ _ (⟨#[119, 104, 101, 110]⟩ : ByteArray) [.string (⟨#[119, 104, 101, 110]⟩ : ByteArray)] from rfl) (Reps.one (show Kd.M Kd.string _ _ _ (⟨#[109, 101, 114, 103, 101]⟩ : ByteArray) [.string (⟨#[109, 101, 114, 103, 101]⟩ : ByteArray)] from rfl) (Reps.one (show Kd.M Kd.string _ _ _ (⟨#[109, 97, 116, 99, 104]⟩ : ByteArray) [.string (⟨#[109, 97, 116, 99, 104]⟩ : ByteArray)] from rfl) (Reps.one (show Kd.M Kd.string _ _ _ (⟨#[101, 118, 101, 114, 121]⟩ : ByteArray) [.string (⟨#[101, 118, 101, 114, 121]⟩ : ByteArray)] from rfl) (Reps.one (show Kd.M Kd.string _ _ _ (⟨#[116, 114, 117, 101]⟩ : ByteArray) [.string (⟨#[116, 114, 117, 101]⟩ : ByteArray)] from rfl) (Reps.one (show Kd.M Kd.string _ _ _ (⟨#[102, 97, 108, 115, 101]⟩ : ByteArray) [.string (⟨#[102, 97, 108, 115, 101]⟩ : ByteArray)] from rfl) (Reps.none _ _))))))))))))))))))))))); intro v113 w1 ho2 hb hg_ hnew_; clear hg_ hnew_; (first | rw [← Ny112.out] at ho2 | (simp only [Int.reduceToNat] at ho2; rw [← Ny112.out] at ho2)); have n0_ := Aside0.mk (Kd.R_lower ho2 (below_size (by repeat (first | (with_reducible first | exact HB.out | apply below_alloc | apply pw_below_drewN | apply below_drew1) | exact HB.out)))); have n1_ := Aside0.mk (below_step (by repeat (first | (with_reducible first | exact HB.out | apply below_alloc | apply pw_below_drewN | apply below_drew1) | exact HB.out)) hb); clear HB; have HO114 := n0_; have HB := n1_; clear n0_ n1_; clear hb ho2))
  go_ret
  exact ⟨_, by first | rfl | (simp [errW_none, errW_some] <;> rfl) | (simp [*, errW_none, errW_some] <;> rfl), by (with_reducible repeat (first | apply Kd.R_alloc | apply Kd.R_drewN | apply Kd.R_drew)); exact HO114.out, by repeat (first | (with_reducible first | exact HB.out | apply below_alloc | apply pw_below_drewN | apply below_drew1) | exact HB.out)⟩

/-! ### penduleref01_IsWord: function 19 -/
def penduleref01_IsWord.f (k : Nat) (a0 : ByteArray) : Option (Bool) := (penduleref01_Words.f).bind fun t115 => ((penduleref01_Has.f k t115 a0).bind fun t118 => (some t118))
theorem penduleref01_IsWord.mono : ∀ a0 k, LeO (penduleref01_IsWord.f k a0) (penduleref01_IsWord.f (k + 1) a0) := by
  intro a0 k
  unfold penduleref01_IsWord.f
  repeat' first
      | (with_reducible exact penduleref01_Has.mono _ _ _)
      | (with_reducible exact LeO.refl _)
      | (with_reducible exact LeO.none _)
      | (with_reducible refine LeO.ite ?_ ?_)
      | (with_reducible refine LeO.bind ?_ (fun _ => ?_))
      | exact penduleref01_Has.mono _ _ _
      | exact LeO.none _
      | refine LeO.ite ?_ ?_
      | refine LeO.bind ?_ (fun _ => ?_)
set_option maxHeartbeats 8000000 in
set_option maxRecDepth 100000 in
theorem penduleref01_IsWord.calls (k : Nat) (a0 : ByteArray) (r : Bool) (w : World) (h : penduleref01_IsWord.f k a0 = some r) :
    Calls Tryd.prog 19 #[.string a0] w fun e w' => e = .returned (.bool r) ∧ Below w.heap.size w w' := by
  have HB := Aside0.mk (Below.refl w.heap.size w)
  have H : ((penduleref01_Words.f).bind fun t115 => ((penduleref01_Has.f k t115 a0).bind fun t118 => (some t118))) = some r := h
  clear h
  replace H := Option.bind_eq_some_iff.mp H
  obtain ⟨t115, A20, H⟩ := H
  replace H : ((penduleref01_Has.f k t115 a0).bind fun t118 => (some t118)) = some r := H
  have A2 := Aside0.mk A20
  clear A20
  replace H := Option.bind_eq_some_iff.mp H
  obtain ⟨t118, A30, H⟩ := H
  replace H : (some t118) = some r := H
  have A3 := Aside0.mk A30
  clear A30
  obtain rfl := Option.some.inj H
  go_enter Tryd.func19, Tryd.ntmps19
  go_wp2_with (first | ((with_reducible refine gate_callee (f := 36) rfl ?_); refine goesL_ (some 3) rfl rfl Tryd.func36 (by kernel_rfl) rfl #[] rfl (by (try simp only [List.map_toArray, List.map_cons, List.map_nil]); first | done | rfl | (simp only [List.length_drop, List.length_take]; rfl)) ?_; (with_reducible refine (penduleref01_Words.calls  t115 _ A2.out).mono ?_); rintro e w4 ⟨v116, rfl, ho0, hb⟩; refine ⟨_, rfl, ?_⟩; have n0_ := Aside0.mk (Kd.R_lower ho0 (below_size (by repeat (first | (with_reducible first | exact HB.out | apply below_alloc | apply pw_below_drewN | apply below_drew1) | exact HB.out)))); have n1_ := Aside0.mk (below_step (by repeat (first | (with_reducible first | exact HB.out | apply below_alloc | apply pw_below_drewN | apply below_drew1) | exact HB.out)) hb); clear HB; have HO117 := n0_; have HB := n1_; clear n0_ n1_; (try clear hb); (try clear hb2); (try clear hk); (try clear hi); (try clear ho0); obtain ⟨Ao5, co5, eo5⟩ := Kd.R_slice HO117.out; subst eo5) | ((with_reducible refine gate_callee (f := 35) rfl ?_); refine goesL_ (some 5) rfl rfl Tryd.func35 (by kernel_rfl) rfl #[.slice Ao5 t115.length co5, .string a0] rfl (by (try simp only [List.map_toArray, List.map_cons, List.map_nil]); first | done | rfl | (simp only [List.length_drop, List.length_take]; rfl)) ?_; (with_reducible refine (penduleref01_Has.calls k _ _ t115 a0 t118 _ ?side1 ?side2 A3.out).mono ?_); (case side1 => repeat (first | exact (Kd.R_reads' HO117.out).2.2 | (with_reducible refine Kd.C_alloc ?_ _) | (with_reducible refine Kd.C_drewN ?_ _) | (with_reducible refine Kd.C_drew ?_))); (case side2 => exact (Kd.R_reads' HO117.out).2.1); rintro e w' ⟨rfl, ⟨nd, rfl⟩⟩; refine ⟨_, rfl, ?_⟩))
  go_ret
  exact ⟨by first | rfl | (simp [errW_none, errW_some] <;> rfl) | (simp [*, errW_none, errW_some] <;> rfl), by repeat (first | (with_reducible first | exact HB.out | apply below_alloc | apply pw_below_drewN | apply below_drew1) | exact HB.out)⟩

/-! ### penduleref01_small: function 33 -/
def penduleref01_small.f (a0 : Int) : Option (Bool) := if a0 ≥ 97 then (some (decide (a0 ≤ 122))) else (some false)
set_option maxHeartbeats 8000000 in
set_option maxRecDepth 100000 in
theorem penduleref01_small.calls (a0 : Int) (r : Bool) (w : World) (h : penduleref01_small.f a0 = some r) :
    Calls Tryd.prog 33 #[.int .u8 a0] w fun e w' => e = .returned (.bool r) ∧ Drawn0 w w' := by
  have H : (if a0 ≥ 97 then (some (decide (a0 ≤ 122))) else (some false)) = some r := h
  clear h
  by_cases c2 : a0 ≥ 97
  · rw [if_pos c2] at H
    have c2b0 : decide (97 ≤ a0) = true := decide_eq_true c2
    clear c2
    obtain rfl := Option.some.inj H
    go_enter Tryd.func33, Tryd.ntmps33
    go_wp2
    go_ret
    exact ⟨by first | rfl | (simp; done) | (simp [*]; done), by repeat (first | exact Drawn0.refl _ | apply Drawn0.step)⟩
  · rw [if_neg c2] at H
    have c2b0 : decide (97 ≤ a0) = false := decide_eq_false c2
    clear c2
    obtain rfl := Option.some.inj H
    go_enter Tryd.func33, Tryd.ntmps33
    go_wp2
    go_ret
    exact ⟨by first | rfl | (simp; done) | (simp [*]; done), by repeat (first | exact Drawn0.refl _ | apply Drawn0.step)⟩

/-! ### penduleref01_great: function 37 -/
def penduleref01_great.f (a0 : Int) : Option (Bool) := if a0 ≥ 65 then (some (decide (a0 ≤ 90))) else (some false)
set_option maxHeartbeats 8000000 in
set_option maxRecDepth 100000 in
theorem penduleref01_great.calls (a0 : Int) (r : Bool) (w : World) (h : penduleref01_great.f a0 = some r) :
    Calls Tryd.prog 37 #[.int .u8 a0] w fun e w' => e = .returned (.bool r) ∧ Drawn0 w w' := by
  have H : (if a0 ≥ 65 then (some (decide (a0 ≤ 90))) else (some false)) = some r := h
  clear h
  by_cases c2 : a0 ≥ 65
  · rw [if_pos c2] at H
    have c2b0 : decide (65 ≤ a0) = true := decide_eq_true c2
    clear c2
    obtain rfl := Option.some.inj H
    go_enter Tryd.func37, Tryd.ntmps37
    go_wp2
    go_ret
    exact ⟨by first | rfl | (simp; done) | (simp [*]; done), by repeat (first | exact Drawn0.refl _ | apply Drawn0.step)⟩
  · rw [if_neg c2] at H
    have c2b0 : decide (65 ≤ a0) = false := decide_eq_false c2
    clear c2
    obtain rfl := Option.some.inj H
    go_enter Tryd.func37, Tryd.ntmps37
    go_wp2
    go_ret
    exact ⟨by first | rfl | (simp; done) | (simp [*]; done), by repeat (first | exact Drawn0.refl _ | apply Drawn0.step)⟩

/-! ### penduleref01_digit: function 48 -/
def penduleref01_digit.f (a0 : Int) : Option (Bool) := if a0 ≥ 48 then (some (decide (a0 ≤ 57))) else (some false)
set_option maxHeartbeats 8000000 in
set_option maxRecDepth 100000 in
theorem penduleref01_digit.calls (a0 : Int) (r : Bool) (w : World) (h : penduleref01_digit.f a0 = some r) :
    Calls Tryd.prog 48 #[.int .u8 a0] w fun e w' => e = .returned (.bool r) ∧ Drawn0 w w' := by
  have H : (if a0 ≥ 48 then (some (decide (a0 ≤ 57))) else (some false)) = some r := h
  clear h
  by_cases c2 : a0 ≥ 48
  · rw [if_pos c2] at H
    have c2b0 : decide (48 ≤ a0) = true := decide_eq_true c2
    clear c2
    obtain rfl := Option.some.inj H
    go_enter Tryd.func48, Tryd.ntmps48
    go_wp2
    go_ret
    exact ⟨by first | rfl | (simp; done) | (simp [*]; done), by repeat (first | exact Drawn0.refl _ | apply Drawn0.step)⟩
  · rw [if_neg c2] at H
    have c2b0 : decide (48 ≤ a0) = false := decide_eq_false c2
    clear c2
    obtain rfl := Option.some.inj H
    go_enter Tryd.func48, Tryd.ntmps48
    go_wp2
    go_ret
    exact ⟨by first | rfl | (simp; done) | (simp [*]; done), by repeat (first | exact Drawn0.refl _ | apply Drawn0.step)⟩

end Go.Proofs.YtffeikfffmonkaaDoor.PScan
