/- A text of this claim, cut to what its theorem reaches (wip/py/stage2.py). -/
import Derived.Test.YtggfnbnochmkdaaGreatPScopex1
namespace Go.Proofs.YtggfnbnochmkdaaGreat.PScope
open Go.RowKit Go.Proofs.YtggfnbnochmkdaaGreatW.PrintWords Go.Proofs.YtggfnbnochmkdaaGreatW.PrintLast Go.Proofs.YtggfnbnochmkdaaGreatW.PrintMore
attribute [local go_sem] max2_int min2_int max_two min_two max_three min_three max_four min_four
set_option linter.unusedVariables false
set_option linter.unusedSimpArgs false
def penduleref01_run.l0 : Nat → ByteArray → Int → Option (Int)
 | 0, _, _ => none
 | k + 1, x0, x3 => if x3 < (x0.size : Int) then (if 0 ≤ x3 then ((penduleref01_more.f (bt x0 x3)).bind fun t157 => (if t157 = true then (penduleref01_run.l0 k x0 (wrap64 (x3 + 1))) else (some x3))) else (none)) else (some x3)
def penduleref01_run.f (k : Nat) (a0 : ByteArray) : Option (Int) := penduleref01_run.l0 k a0 0
set_option maxHeartbeats 8000000 in
set_option maxRecDepth 100000 in
theorem penduleref01_run.calls (k : Nat) (a0 : ByteArray) (r : Int) (w : World) (h : penduleref01_run.f k a0 = some r) :
   Calls Tryz.prog 85 #[.string a0] w fun e w' => e = .returned (.int .i64 r) ∧ Drawn0 w w' := by
 have H : (penduleref01_run.l0 k a0 0) = some r := h
 clear h
 have H' := Aside0.mk H
 clear H
 go_enter Tryz.func85, Tryz.ntmps85
 go_wp2
 go_loopg [3] k (fun kq v3 w' => ∃ (x3_1 : Int), v3 = .int .i64 x3_1 ∧ Aside0 (penduleref01_run.l0 kq a0 x3_1 = some r) ∧ Aside0 (kq ≤ k) ∧ Drawn0 w w')
 case atStart => exact ⟨(0), (by first | rfl | (simp; done) | (simp [*]; done)), H', ⟨Nat.le_refl _⟩, by repeat (first | exact Drawn0.refl _ | apply Drawn0.step)⟩
 case round =>
   clear H'
   obtain ⟨x3_1, rfl, HA, HK1, ⟨m1, rfl⟩⟩ := hrel
   cases gk with
   | zero => exact absurd HA.out (by simp [penduleref01_run.l0])
   | succ k1 =>
     have H := HA.out
     clear HA
     simp only [penduleref01_run.l0] at H
     by_cases c2 : x3_1 < (a0.size : Int)
     · rw [if_pos c2] at H
       have c2b0 : decide (x3_1 < (a0.size : Int)) = true := decide_eq_true c2
       clear c2
       by_cases c3 : 0 ≤ x3_1
       · rw [if_pos c3] at H
         have c3b0 : decide (0 ≤ x3_1) = true := decide_eq_true c3
         clear c3
         replace H := Option.bind_eq_some_iff.mp H
         obtain ⟨t157, A50, H⟩ := H
         replace H : (if t157 = true then (penduleref01_run.l0 k1 a0 (wrap64 (x3_1 + 1))) else (some x3_1)) = some r := H
         have A5 := Aside0.mk A50
         clear A50
         by_cases c6 : t157 = true
         · subst c6
           have H1 : (penduleref01_run.l0 k1 a0 (wrap64 (x3_1 + 1))) = some r := by rw [if_pos rfl] at H; exact H
           clear H
           have H := H1
           clear H1
           have H' := Aside0.mk H
           clear H
           have p4 : 0 ≤ (x3_1 : Int) := of_decide_eq_true (by first | (with_reducible assumption) | assumption)
           have q4 : x3_1 < (a0.size : Int) := of_decide_eq_true (by first | (with_reducible assumption) | assumption)
           have hx4 := bt_at a0 x3_1
           replace p4 := eq_true p4
           replace q4 := eq_true q4
           go_wp2_with (first | (go_at_call 106; (with_reducible refine (penduleref01_more.calls (bt a0 x3_1) true _ A5.out).mono ?_); rintro e w' ⟨rfl, ⟨nd, rfl⟩⟩))
           go_roundg k1
           case measure => have := HK1.out; omega
           case rel => exact ⟨(wrap64 (x3_1 + 1)), (by first | rfl | (simp; done) | (simp [*]; done)), H', ⟨by have := HK1.out; omega⟩, by repeat (first | exact Drawn0.refl _ | apply Drawn0.step)⟩
         · replace c6 := Bool.eq_false_iff.mpr c6
           subst c6
           have H1 : (some x3_1) = some r := by rw [if_neg (show ¬ (false = true) by decide)] at H; exact H
           clear H
           have H := H1
           clear H1
           obtain rfl := Option.some.inj H
           have p4 : 0 ≤ (x3_1 : Int) := of_decide_eq_true (by first | (with_reducible assumption) | assumption)
           have q4 : x3_1 < (a0.size : Int) := of_decide_eq_true (by first | (with_reducible assumption) | assumption)
           have hx4 := bt_at a0 x3_1
           replace p4 := eq_true p4
           replace q4 := eq_true q4
           go_wp2_with (first | (go_at_call 106; (with_reducible refine (penduleref01_more.calls (bt a0 x3_1) false _ A5.out).mono ?_); rintro e w' ⟨rfl, ⟨nd, rfl⟩⟩))
           go_ret
           exact ⟨by first | rfl | (simp; done) | (simp [*]; done), by repeat (first | exact Drawn0.refl _ | apply Drawn0.step)⟩
       · rw [if_neg c3] at H
         exact absurd H (by simp)
     · rw [if_neg c2] at H
       have c2b0 : decide (x3_1 < (a0.size : Int)) = false := decide_eq_false c2
       clear c2
       obtain rfl := Option.some.inj H
       go_wp2
       go_ret
       exact ⟨by first | rfl | (simp; done) | (simp [*]; done), by repeat (first | exact Drawn0.refl _ | apply Drawn0.step)⟩
def penduleref01_Words.f  : Option (List ByteArray) := some (([(⟨#[116, 121, 112, 101]⟩ : ByteArray), (⟨#[110, 111, 100, 101]⟩ : ByteArray), (⟨#[119, 104, 101, 114, 101]⟩ : ByteArray), (⟨#[101, 110, 100]⟩ : ByteArray), (⟨#[97, 117, 116, 111, 109, 97, 116, 111, 110]⟩ : ByteArray), (⟨#[115, 116, 97, 116, 101]⟩ : ByteArray), (⟨#[117, 110, 116, 105, 108]⟩ : ByteArray), (⟨#[116, 104, 101, 110]⟩ : ByteArray), (⟨#[105, 102]⟩ : ByteArray), (⟨#[101, 108, 115, 101]⟩ : ByteArray), (⟨#[102, 98, 121]⟩ : ByteArray), (⟨#[112, 114, 101]⟩ : ByteArray), (⟨#[110, 111, 116]⟩ : ByteArray), (⟨#[97, 110, 100]⟩ : ByteArray), (⟨#[111, 114]⟩ : ByteArray), (⟨#[119, 104, 101, 110]⟩ : ByteArray), (⟨#[109, 101, 114, 103, 101]⟩ : ByteArray), (⟨#[109, 97, 116, 99, 104]⟩ : ByteArray), (⟨#[101, 118, 101, 114, 121]⟩ : ByteArray), (⟨#[116, 114, 117, 101]⟩ : ByteArray), (⟨#[102, 97, 108, 115, 101]⟩ : ByteArray)] : List ByteArray))
set_option maxHeartbeats 8000000 in
set_option maxRecDepth 100000 in
theorem penduleref01_Words.calls  (r : List ByteArray) (w : World) (h : penduleref01_Words.f  = some r) :
   Calls Tryz.prog 86 #[] w fun e w' => ∃ v0_ : Value, e = .returned (v0_) ∧ Kd.R Kd.string 9 w' w.heap.size (fun _ => True) v0_ r ∧ Below w.heap.size w w' := by
 have HB := Aside0.mk (Below.refl w.heap.size w)
 have H : (some (([(⟨#[116, 121, 112, 101]⟩ : ByteArray), (⟨#[110, 111, 100, 101]⟩ : ByteArray), (⟨#[119, 104, 101, 114, 101]⟩ : ByteArray), (⟨#[101, 110, 100]⟩ : ByteArray), (⟨#[97, 117, 116, 111, 109, 97, 116, 111, 110]⟩ : ByteArray), (⟨#[115, 116, 97, 116, 101]⟩ : ByteArray), (⟨#[117, 110, 116, 105, 108]⟩ : ByteArray), (⟨#[116, 104, 101, 110]⟩ : ByteArray), (⟨#[105, 102]⟩ : ByteArray), (⟨#[101, 108, 115, 101]⟩ : ByteArray), (⟨#[102, 98, 121]⟩ : ByteArray), (⟨#[112, 114, 101]⟩ : ByteArray), (⟨#[110, 111, 116]⟩ : ByteArray), (⟨#[97, 110, 100]⟩ : ByteArray), (⟨#[111, 114]⟩ : ByteArray), (⟨#[119, 104, 101, 110]⟩ : ByteArray), (⟨#[109, 101, 114, 103, 101]⟩ : ByteArray), (⟨#[109, 97, 116, 99, 104]⟩ : ByteArray), (⟨#[101, 118, 101, 114, 121]⟩ : ByteArray), (⟨#[116, 114, 117, 101]⟩ : ByteArray), (⟨#[102, 97, 108, 115, 101]⟩ : ByteArray)] : List ByteArray))) = some r := h
 clear h
 obtain ⟨y158, hy158⟩ : ∃ y_ : List ByteArray, y_ = (([(⟨#[116, 121, 112, 101]⟩ : ByteArray), (⟨#[110, 111, 100, 101]⟩ : ByteArray), (⟨#[119, 104, 101, 114, 101]⟩ : ByteArray), (⟨#[101, 110, 100]⟩ : ByteArray), (⟨#[97, 117, 116, 111, 109, 97, 116, 111, 110]⟩ : ByteArray), (⟨#[115, 116, 97, 116, 101]⟩ : ByteArray), (⟨#[117, 110, 116, 105, 108]⟩ : ByteArray), (⟨#[116, 104, 101, 110]⟩ : ByteArray), (⟨#[105, 102]⟩ : ByteArray), (⟨#[101, 108, 115, 101]⟩ : ByteArray), (⟨#[102, 98, 121]⟩ : ByteArray), (⟨#[112, 114, 101]⟩ : ByteArray), (⟨#[110, 111, 116]⟩ : ByteArray), (⟨#[97, 110, 100]⟩ : ByteArray), (⟨#[111, 114]⟩ : ByteArray), (⟨#[119, 104, 101, 110]⟩ : ByteArray), (⟨#[109, 101, 114, 103, 101]⟩ : ByteArray), (⟨#[109, 97, 116, 99, 104]⟩ : ByteArray), (⟨#[101, 118, 101, 114, 121]⟩ : ByteArray), (⟨#[116, 114, 117, 101]⟩ : ByteArray), (⟨#[102, 97, 108, 115, 101]⟩ : ByteArray)] : List ByteArray)) := ⟨_, rfl⟩
 replace H : (some y158) = some r := by first | (rw [hy158]; with_reducible exact H) | (have H2_ := (Option.bind_some _ _).symm.trans H; rw [hy158]; with_reducible exact H2_) | (have H2_ := (Option.bind_some _ _).symm.trans H; with_reducible exact H2_) | with_reducible exact H | (rw [hy158]; exact H) | exact H
 have Ny158 := Aside0.mk hy158
 clear hy158
 obtain rfl := Option.some.inj H
 go_enter Tryz.func86, Tryz.ntmps86
 go_wp2_with (first | ((with_reducible refine gate_dst (N := 1) rfl ?_); refine Kd.R_lit Kd.string _ 9 ?hg (N := 1) ?hd (xs := ([(⟨#[116, 121, 112, 101]⟩ : ByteArray), (⟨#[110, 111, 100, 101]⟩ : ByteArray), (⟨#[119, 104, 101, 114, 101]⟩ : ByteArray), (⟨#[101, 110, 100]⟩ : ByteArray), (⟨#[97, 117, 116, 111, 109, 97, 116, 111, 110]⟩ : ByteArray), (⟨#[115, 116, 97, 116, 101]⟩ : ByteArray), (⟨#[117, 110, 116, 105, 108]⟩ : ByteArray), (⟨#[116, 104, 101, 110]⟩ : ByteArray), (⟨#[105, 102]⟩ : ByteArray), (⟨#[101, 108, 115, 101]⟩ : ByteArray), (⟨#[102, 98, 121]⟩ : ByteArray), (⟨#[112, 114, 101]⟩ : ByteArray), (⟨#[110, 111, 116]⟩ : ByteArray), (⟨#[97, 110, 100]⟩ : ByteArray), (⟨#[111, 114]⟩ : ByteArray), (⟨#[119, 104, 101, 110]⟩ : ByteArray), (⟨#[109, 101, 114, 103, 101]⟩ : ByteArray), (⟨#[109, 97, 116, 99, 104]⟩ : ByteArray), (⟨#[101, 118, 101, 114, 121]⟩ : ByteArray), (⟨#[116, 114, 117, 101]⟩ : ByteArray), (⟨#[102, 97, 108, 115, 101]⟩ : ByteArray)] : List ByteArray)) (inner := [.string (⟨#[116, 121, 112, 101]⟩ : ByteArray), .string (⟨#[110, 111, 100, 101]⟩ : ByteArray), .string (⟨#[119, 104, 101, 114, 101]⟩ : ByteArray), .string (⟨#[101, 110, 100]⟩ : ByteArray), .string (⟨#[97, 117, 116, 111, 109, 97, 116, 111, 110]⟩ : ByteArray), .string (⟨#[115, 116, 97, 116, 101]⟩ : ByteArray), .string (⟨#[117, 110, 116, 105, 108]⟩ : ByteArray), .string (⟨#[116, 104, 101, 110]⟩ : ByteArray), .string (⟨#[105, 102]⟩ : ByteArray), .string (⟨#[101, 108, 115, 101]⟩ : ByteArray), .string (⟨#[102, 98, 121]⟩ : ByteArray), .string (⟨#[112, 114, 101]⟩ : ByteArray), .string (⟨#[110, 111, 116]⟩ : ByteArray), .string (⟨#[97, 110, 100]⟩ : ByteArray), .string (⟨#[111, 114]⟩ : ByteArray), .string (⟨#[119, 104, 101, 110]⟩ : ByteArray), .string (⟨#[109, 101, 114, 103, 101]⟩ : ByteArray), .string (⟨#[109, 97, 116, 99, 104]⟩ : ByteArray), .string (⟨#[101, 118, 101, 114, 121]⟩ : ByteArray), .string (⟨#[116, 114, 117, 101]⟩ : ByteArray), .string (⟨#[102, 97, 108, 115, 101]⟩ : ByteArray)]) (ok := fun _ => True) (okp := fun _ => True) ?hr ?hp (fun _ hk => hk) trivial (Below.refl _ _) (Nat.le_refl _) (by simp) ?_; (case hd => rfl); (case hg => rfl); (case hr => first | (go_simp; done) | (go_simp; rfl)); (case hp => exact (Reps.one (show Kd.M Kd.string _ _ _ (⟨#[116, 121, 112, 101]⟩ : ByteArray) [.string (⟨#[116, 121, 112, 101]⟩ : ByteArray)] from rfl) (Reps.one (show Kd.M Kd.string _ _ _ (⟨#[110, 111, 100, 101]⟩ : ByteArray) [.string (⟨#[110, 111, 100, 101]⟩ : ByteArray)] from rfl) (Reps.one (show Kd.M Kd.string _ _ _ (⟨#[119, 104, 101, 114, 101]⟩ : ByteArray) [.string (⟨#[119, 104, 101, 114, 101]⟩ : ByteArray)] from rfl) (Reps.one (show Kd.M Kd.string _ _ _ (⟨#[101, 110, 100]⟩ : ByteArray) [.string (⟨#[101, 110, 100]⟩ : ByteArray)] from rfl) (Reps.one (show Kd.M Kd.string _ _ _ (⟨#[97, 117, 116, 111, 109, 97, 116, 111, 110]⟩ : ByteArray) [.string (⟨#[97, 117, 116, 111, 109, 97, 116, 111, 110]⟩ : ByteArray)] from rfl) (Reps.one (show Kd.M Kd.string _ _ _ (⟨#[115, 116, 97, 116, 101]⟩ : ByteArray) [.string (⟨#[115, 116, 97, 116, 101]⟩ : ByteArray)] from rfl) (Reps.one (show Kd.M Kd.string _ _ _ (⟨#[117, 110, 116, 105, 108]⟩ : ByteArray) [.string (⟨#[117, 110, 116, 105, 108]⟩ : ByteArray)] from rfl) (Reps.one (show Kd.M Kd.string _ _ _ (⟨#[116, 104, 101, 110]⟩ : ByteArray) [.string (⟨#[116, 104, 101, 110]⟩ : ByteArray)] from rfl) (Reps.one (show Kd.M Kd.string _ _ _ (⟨#[105, 102]⟩ : ByteArray) [.string (⟨#[105, 102]⟩ : ByteArray)] from rfl) (Reps.one (show Kd.M Kd.string _ _ _ (⟨#[101, 108, 115, 101]⟩ : ByteArray) [.string (⟨#[101, 108, 115, 101]⟩ : ByteArray)] from rfl) (Reps.one (show Kd.M Kd.string _ _ _ (⟨#[102, 98, 121]⟩ : ByteArray) [.string (⟨#[102, 98, 121]⟩ : ByteArray)] from rfl) (Reps.one (show Kd.M Kd.string _ _ _ (⟨#[112, 114, 101]⟩ : ByteArray) [.string (⟨#[112, 114, 101]⟩ : ByteArray)] from rfl) (Reps.one (show Kd.M Kd.string _ _ _ (⟨#[110, 111, 116]⟩ : ByteArray) [.string (⟨#[110, 111, 116]⟩ : ByteArray)] from rfl) (Reps.one (show Kd.M Kd.string _ _ _ (⟨#[97, 110, 100]⟩ : ByteArray) [.string (⟨#[97, 110, 100]⟩ : ByteArray)] from rfl) (Reps.one (show Kd.M Kd.string _ _ _ (⟨#[111, 114]⟩ : ByteArray) [.string (⟨#[111, 114]⟩ : ByteArray)] from rfl) (Reps.one (show Kd.M Kd.string _ _ _ (⟨#[119, 104, 101, 110]⟩ : ByteArray) [.string (⟨#[119, 104, 101, 110]⟩ : ByteArray)] from rfl) (Reps.one (show Kd.M Kd.string _ _ _ (⟨#[109, 101, 114, 103, 101]⟩ : ByteArray) [.string (⟨#[109, 101, 114, 103, 101]⟩ : ByteArray)] from rfl) (Reps.one (show Kd.M Kd.string _ _ _ (⟨#[109, 97, 116, 99, 104]⟩ : ByteArray) [.string (⟨#[109, 97, 116, 99, 104]⟩ : ByteArray)] from rfl) (Reps.one (show Kd.M Kd.string _ _ _ (⟨#[101, 118, 101, 114, 121]⟩ : ByteArray) [.string (⟨#[101, 118, 101, 114, 121]⟩ : ByteArray)] from rfl) (Reps.one (show Kd.M Kd.string _ _ _ (⟨#[116, 114, 117, 101]⟩ : ByteArray) [.string (⟨#[116, 114, 117, 101]⟩ : ByteArray)] from rfl) (Reps.one (show Kd.M Kd.string _ _ _ (⟨#[102, 97, 108, 115, 101]⟩ : ByteArray) [.string (⟨#[102, 97, 108, 115, 101]⟩ : ByteArray)] from rfl) (Reps.none _ _))))))))))))))))))))))); intro v159 w1 ho2 hb hg_ hnew_; clear hg_ hnew_; (first | rw [← Ny158.out] at ho2 | (simp only [Int.reduceToNat] at ho2; rw [← Ny158.out] at ho2)); have n0_ := Aside0.mk (Kd.R_lower ho2 (below_size (by repeat (first | (with_reducible first | exact HB.out | apply below_alloc | apply pw_below_drewN | apply below_drew1) | exact HB.out)))); have n1_ := Aside0.mk (below_step (by repeat (first | (with_reducible first | exact HB.out | apply below_alloc | apply pw_below_drewN | apply below_drew1) | exact HB.out)) hb); clear HB; have HO160 := n0_; have HB := n1_; clear n0_ n1_; clear hb ho2))
 go_ret
 exact ⟨_, by first | rfl | (simp [errW_none, errW_some] <;> rfl) | (simp [*, errW_none, errW_some] <;> rfl), by (with_reducible repeat (first | apply Kd.R_alloc | apply Kd.R_drewN | apply Kd.R_drew)); exact HO160.out, by repeat (first | (with_reducible first | exact HB.out | apply below_alloc | apply pw_below_drewN | apply below_drew1) | exact HB.out)⟩
def penduleref01_IsName.f (k : Nat) (a0 : ByteArray) : Option (Bool) := if (a0.size : Int) ≥ 1 then (if (a0.size : Int) ≤ 24 then (if 0 < (a0.size : Int) then ((penduleref01_small.f (bt a0 0)).bind fun t161 => (if t161 = true then ((penduleref01_run.f k a0).bind fun t162 => (if t162 = (a0.size : Int) then ((penduleref01_Words.f).bind fun t163 => ((penduleref01_Has.f k t163 a0).bind fun t166 => (some (!t166)))) else (some false))) else (some false))) else (none)) else (some false)) else (some false)
set_option maxHeartbeats 8000000 in
set_option maxRecDepth 100000 in
theorem penduleref01_IsName.calls (k : Nat) (a0 : ByteArray) (r : Bool) (w : World) (h : penduleref01_IsName.f k a0 = some r) :
   Calls Tryz.prog 60 #[.string a0] w fun e w' => e = .returned (.bool r) ∧ Below w.heap.size w w' := by
 have HB := Aside0.mk (Below.refl w.heap.size w)
 have H : (if (a0.size : Int) ≥ 1 then (if (a0.size : Int) ≤ 24 then (if 0 < (a0.size : Int) then ((penduleref01_small.f (bt a0 0)).bind fun t161 => (if t161 = true then ((penduleref01_run.f k a0).bind fun t162 => (if t162 = (a0.size : Int) then ((penduleref01_Words.f).bind fun t163 => ((penduleref01_Has.f k t163 a0).bind fun t166 => (some (!t166)))) else (some false))) else (some false))) else (none)) else (some false)) else (some false)) = some r := h
 clear h
 by_cases c2 : (a0.size : Int) ≥ 1
 · rw [if_pos c2] at H
   have c2b0 : decide (1 ≤ (a0.size : Int)) = true := decide_eq_true c2
   have c2b1 : decide (1 ≤ a0.size) = true := decide_eq_true (by omega)
   clear c2
   by_cases c3 : (a0.size : Int) ≤ 24
   · rw [if_pos c3] at H
     have c3b0 : decide ((a0.size : Int) ≤ 24) = true := decide_eq_true c3
     have c3b1 : decide (a0.size ≤ 24) = true := decide_eq_true (by omega)
     clear c3
     by_cases c4 : 0 < (a0.size : Int)
     · rw [if_pos c4] at H
       have c4b0 : decide (0 < (a0.size : Int)) = true := decide_eq_true c4
       have c4b1 : decide (0 < a0.size) = true := decide_eq_true (by omega)
       clear c4
       replace H := Option.bind_eq_some_iff.mp H
       obtain ⟨t161, A60, H⟩ := H
       replace H : (if t161 = true then ((penduleref01_run.f k a0).bind fun t162 => (if t162 = (a0.size : Int) then ((penduleref01_Words.f).bind fun t163 => ((penduleref01_Has.f k t163 a0).bind fun t166 => (some (!t166)))) else (some false))) else (some false)) = some r := H
       have A6 := Aside0.mk A60
       clear A60
       by_cases c7 : t161 = true
       · subst c7
         have H1 : ((penduleref01_run.f k a0).bind fun t162 => (if t162 = (a0.size : Int) then ((penduleref01_Words.f).bind fun t163 => ((penduleref01_Has.f k t163 a0).bind fun t166 => (some (!t166)))) else (some false))) = some r := by rw [if_pos rfl] at H; exact H
         clear H
         have H := H1
         clear H1
         replace H := Option.bind_eq_some_iff.mp H
         obtain ⟨t162, A80, H⟩ := H
         replace H : (if t162 = (a0.size : Int) then ((penduleref01_Words.f).bind fun t163 => ((penduleref01_Has.f k t163 a0).bind fun t166 => (some (!t166)))) else (some false)) = some r := H
         have A8 := Aside0.mk A80
         clear A80
         by_cases c9 : t162 = (a0.size : Int)
         · rw [if_pos c9] at H
           have c9b0 : (t162 == (a0.size : Int)) = true := beq_iff_eq.mpr c9
           have c9b1 : (t162 != (a0.size : Int)) = false := bne_eq_false_iff_eq.mpr c9
           clear c9
           replace H := Option.bind_eq_some_iff.mp H
           obtain ⟨t163, A100, H⟩ := H
           replace H : ((penduleref01_Has.f k t163 a0).bind fun t166 => (some (!t166))) = some r := H
           have A10 := Aside0.mk A100
           clear A100
           replace H := Option.bind_eq_some_iff.mp H
           obtain ⟨t166, A110, H⟩ := H
           replace H : (some (!t166)) = some r := H
           have A11 := Aside0.mk A110
           clear A110
           obtain rfl := Option.some.inj H
           have p5 : 0 ≤ (0 : Int) := (by omega)
           have q5 : 0 < a0.size := (by have : (0 : Int) < (a0.size : Int) := of_decide_eq_true (by first | (with_reducible assumption) | assumption); omega)
           have hx5 : ∀ h : 0 < a0.size, ((a0[0]'h).toNat : Int) = bt a0 0 := bt_at a0 0
           clear p5
           have qi5 : (0 < (a0.size : Int)) = True := eq_true (of_decide_eq_true (by first | (with_reducible assumption) | assumption))
           replace q5 := eq_true q5
           go_enter Tryz.func60, Tryz.ntmps60
           go_wp2_with (first | (go_at_call 84; (with_reducible refine (penduleref01_small.calls (bt a0 0) true _ A6.out).mono ?_); rintro e w' ⟨rfl, ⟨nd, rfl⟩⟩) | (go_at_call 85; (with_reducible refine (penduleref01_run.calls k a0 t162 _ A8.out).mono ?_); rintro e w' ⟨rfl, ⟨nd, rfl⟩⟩) | (go_at_call 86; (with_reducible refine (penduleref01_Words.calls  t163 _ A10.out).mono ?_); rintro e w12 ⟨v164, rfl, ho0, hb⟩; have n0_ := Aside0.mk (Kd.R_lower ho0 (below_size (by repeat (first | (with_reducible first | exact HB.out | apply below_alloc | apply pw_below_drewN | apply below_drew1) | exact HB.out)))); have n1_ := Aside0.mk (below_step (by repeat (first | (with_reducible first | exact HB.out | apply below_alloc | apply pw_below_drewN | apply below_drew1) | exact HB.out)) hb); clear HB; have HO165 := n0_; have HB := n1_; clear n0_ n1_; (try clear hb); (try clear hb2); (try clear hk); (try clear hi); (try clear ho0); obtain ⟨Ao13, co13, eo13⟩ := Kd.R_slice HO165.out; subst eo13) | (go_at_call 39; (with_reducible refine (penduleref01_Has.calls k _ _ t163 a0 t166 _ ?side1 ?side2 A11.out).mono ?_); (case side1 => repeat (first | exact (Kd.R_reads' HO165.out).2.2 | (with_reducible refine Kd.C_alloc ?_ _) | (with_reducible refine Kd.C_drewN ?_ _) | (with_reducible refine Kd.C_drew ?_))); (case side2 => exact (Kd.R_reads' HO165.out).2.1); rintro e w' ⟨rfl, ⟨nd, rfl⟩⟩))
           go_ret
           exact ⟨by first | rfl | (simp [errW_none, errW_some] <;> rfl) | (simp [*, errW_none, errW_some] <;> rfl), by repeat (first | (with_reducible first | exact HB.out | apply below_alloc | apply pw_below_drewN | apply below_drew1) | exact HB.out)⟩
         · rw [if_neg c9] at H
           have c9b0 : (t162 == (a0.size : Int)) = false := beq_eq_false_iff_ne.mpr c9
           have c9b1 : (t162 != (a0.size : Int)) = true := bne_iff_ne.mpr c9
           obtain rfl := Option.some.inj H
           have p5 : 0 ≤ (0 : Int) := (by omega)
           have q5 : 0 < a0.size := (by have : (0 : Int) < (a0.size : Int) := of_decide_eq_true (by first | (with_reducible assumption) | assumption); omega)
           have hx5 : ∀ h : 0 < a0.size, ((a0[0]'h).toNat : Int) = bt a0 0 := bt_at a0 0
           clear p5
           have qi5 : (0 < (a0.size : Int)) = True := eq_true (of_decide_eq_true (by first | (with_reducible assumption) | assumption))
           replace q5 := eq_true q5
           go_enter Tryz.func60, Tryz.ntmps60
           go_wp2_with (first | (go_at_call 84; (with_reducible refine (penduleref01_small.calls (bt a0 0) true _ A6.out).mono ?_); rintro e w' ⟨rfl, ⟨nd, rfl⟩⟩) | (go_at_call 85; (with_reducible refine (penduleref01_run.calls k a0 t162 _ A8.out).mono ?_); rintro e w' ⟨rfl, ⟨nd, rfl⟩⟩))
           go_ret
           exact ⟨by first | rfl | (simp [errW_none, errW_some] <;> rfl) | (simp [*, errW_none, errW_some] <;> rfl), by repeat (first | (with_reducible first | exact HB.out | apply below_alloc | apply pw_below_drewN | apply below_drew1) | exact HB.out)⟩
       · replace c7 := Bool.eq_false_iff.mpr c7
         subst c7
         have H1 : (some false) = some r := by rw [if_neg (show ¬ (false = true) by decide)] at H; exact H
         clear H
         have H := H1
         clear H1
         obtain rfl := Option.some.inj H
         have p5 : 0 ≤ (0 : Int) := (by omega)
         have q5 : 0 < a0.size := (by have : (0 : Int) < (a0.size : Int) := of_decide_eq_true (by first | (with_reducible assumption) | assumption); omega)
         have hx5 : ∀ h : 0 < a0.size, ((a0[0]'h).toNat : Int) = bt a0 0 := bt_at a0 0
         clear p5
         have qi5 : (0 < (a0.size : Int)) = True := eq_true (of_decide_eq_true (by first | (with_reducible assumption) | assumption))
         replace q5 := eq_true q5
         go_enter Tryz.func60, Tryz.ntmps60
         go_wp2_with (first | (go_at_call 84; (with_reducible refine (penduleref01_small.calls (bt a0 0) false _ A6.out).mono ?_); rintro e w' ⟨rfl, ⟨nd, rfl⟩⟩))
         go_ret
         exact ⟨by first | rfl | (simp [errW_none, errW_some] <;> rfl) | (simp [*, errW_none, errW_some] <;> rfl), by repeat (first | (with_reducible first | exact HB.out | apply below_alloc | apply pw_below_drewN | apply below_drew1) | exact HB.out)⟩
     · rw [if_neg c4] at H
       exact absurd H (by simp)
   · rw [if_neg c3] at H
     have c3b0 : decide ((a0.size : Int) ≤ 24) = false := decide_eq_false c3
     have c3b1 : decide (a0.size ≤ 24) = false := decide_eq_false (by omega)
     clear c3
     obtain rfl := Option.some.inj H
     go_enter Tryz.func60, Tryz.ntmps60
     go_wp2
     go_ret
     exact ⟨by first | rfl | (simp [errW_none, errW_some] <;> rfl) | (simp [*, errW_none, errW_some] <;> rfl), by repeat (first | (with_reducible first | exact HB.out | apply below_alloc | apply pw_below_drewN | apply below_drew1) | exact HB.out)⟩
 · rw [if_neg c2] at H
   have c2b0 : decide (1 ≤ (a0.size : Int)) = false := decide_eq_false c2
   have c2b1 : decide (1 ≤ a0.size) = false := decide_eq_false (by omega)
   clear c2
   obtain rfl := Option.some.inj H
   go_enter Tryz.func60, Tryz.ntmps60
   go_wp2
   go_ret
   exact ⟨by first | rfl | (simp [errW_none, errW_some] <;> rfl) | (simp [*, errW_none, errW_some] <;> rfl), by repeat (first | (with_reducible first | exact HB.out | apply below_alloc | apply pw_below_drewN | apply below_drew1) | exact HB.out)⟩
def penduleref02_Name.f (k : Nat) (a0 : ByteArray) (a1 : Bool) : Option (Bool) := if a1 = true then (if (a0.size : Int) > 1 then (if 0 < (a0.size : Int) then (if (bt a0 0) = 95 then (if 1 ≤ (a0.size : Int) then ((penduleref01_IsName.f k (a0.extract 1 a0.size)).bind fun t167 => (some t167)) else (none)) else ((penduleref01_IsName.f k a0).bind fun t168 => (some t168))) else (none)) else ((penduleref01_IsName.f k a0).bind fun t169 => (some t169))) else ((penduleref01_IsName.f k a0).bind fun t170 => (some t170))
set_option maxHeartbeats 8000000 in
set_option maxRecDepth 100000 in
theorem penduleref02_Name.calls (k : Nat) (a0 : ByteArray) (a1 : Bool) (r : Bool) (w : World) (h : penduleref02_Name.f k a0 a1 = some r) :
   Calls Tryz.prog 41 #[.string a0, .bool a1] w fun e w' => e = .returned (.bool r) ∧ Below w.heap.size w w' := by
 have HB := Aside0.mk (Below.refl w.heap.size w)
 have H : (if a1 = true then (if (a0.size : Int) > 1 then (if 0 < (a0.size : Int) then (if (bt a0 0) = 95 then (if 1 ≤ (a0.size : Int) then ((penduleref01_IsName.f k (a0.extract 1 a0.size)).bind fun t167 => (some t167)) else (none)) else ((penduleref01_IsName.f k a0).bind fun t168 => (some t168))) else (none)) else ((penduleref01_IsName.f k a0).bind fun t169 => (some t169))) else ((penduleref01_IsName.f k a0).bind fun t170 => (some t170))) = some r := h
 clear h
 by_cases c3 : a1 = true
 · subst c3
   have H1 : (if (a0.size : Int) > 1 then (if 0 < (a0.size : Int) then (if (bt a0 0) = 95 then (if 1 ≤ (a0.size : Int) then ((penduleref01_IsName.f k (a0.extract 1 a0.size)).bind fun t167 => (some t167)) else (none)) else ((penduleref01_IsName.f k a0).bind fun t168 => (some t168))) else (none)) else ((penduleref01_IsName.f k a0).bind fun t169 => (some t169))) = some r := by rw [if_pos rfl] at H; exact H
   clear H
   have H := H1
   clear H1
   by_cases c4 : (a0.size : Int) > 1
   · rw [if_pos c4] at H
     have c4b0 : decide (1 < (a0.size : Int)) = true := decide_eq_true c4
     have c4b1 : decide (1 < a0.size) = true := decide_eq_true (by omega)
     clear c4
     by_cases c5 : 0 < (a0.size : Int)
     · rw [if_pos c5] at H
       have c5b0 : decide (0 < (a0.size : Int)) = true := decide_eq_true c5
       have c5b1 : decide (0 < a0.size) = true := decide_eq_true (by omega)
       clear c5
       by_cases c7 : (bt a0 0) = 95
       · rw [if_pos c7] at H
         have c7b0 : ((bt a0 0) == 95) = true := beq_iff_eq.mpr c7
         have c7b1 : ((bt a0 0) != 95) = false := bne_eq_false_iff_eq.mpr c7
         clear c7
         by_cases c8 : 1 ≤ (a0.size : Int)
         · rw [if_pos c8] at H
           have c8b0 := eq_true c8
           have c8b1 : decide (1 ≤ (a0.size : Int)) = true := decide_eq_true c8
           clear c8
           replace H := Option.bind_eq_some_iff.mp H
           obtain ⟨t167, A90, H⟩ := H
           replace H : (some t167) = some r := H
           have A9 := Aside0.mk A90
           clear A90
           obtain rfl := Option.some.inj H
           have p6 : 0 ≤ (0 : Int) := (by omega)
           have q6 : 0 < a0.size := (by have : (0 : Int) < (a0.size : Int) := of_decide_eq_true (by first | (with_reducible assumption) | assumption); omega)
           have hx6 : ∀ h : 0 < a0.size, ((a0[0]'h).toNat : Int) = bt a0 0 := bt_at a0 0
           clear p6
           have qi6 : (0 < (a0.size : Int)) = True := eq_true (of_decide_eq_true (by first | (with_reducible assumption) | assumption))
           replace q6 := eq_true q6
           go_enter Tryz.func41, Tryz.ntmps41
           go_wp2_with (first | ((with_reducible refine gate_callee (f := 60) rfl ?_); refine goesL_ (some 19) rfl rfl Tryz.func60 (by kernel_rfl) rfl #[.string (a0.extract 1 a0.size)] rfl (by (try simp only [List.map_toArray, List.map_cons, List.map_nil]); first | done | rfl | (simp only [List.length_drop, List.length_take]; rfl)) ?_; (with_reducible refine (penduleref01_IsName.calls k (a0.extract 1 a0.size) t167 _ A9.out).mono ?_); rintro e w10 ⟨rfl, hb⟩; refine ⟨_, rfl, ?_⟩; have n0_ := Aside0.mk (below_step (by repeat (first | (with_reducible first | exact HB.out | apply below_alloc | apply pw_below_drewN | apply below_drew1) | exact HB.out)) hb); clear HB; have HB := n0_; clear n0_; (try clear hb); (try clear hb2); (try clear hk); (try clear hi)))
           go_ret
           exact ⟨by first | rfl | (simp [errW_none, errW_some] <;> rfl) | (simp [*, errW_none, errW_some] <;> rfl), by repeat (first | (with_reducible first | exact HB.out | apply below_alloc | apply pw_below_drewN | apply below_drew1) | exact HB.out)⟩
         · rw [if_neg c8] at H
           exact absurd H (by simp)
       · rw [if_neg c7] at H
         have c7b0 : ((bt a0 0) == 95) = false := beq_eq_false_iff_ne.mpr c7
         have c7b1 : ((bt a0 0) != 95) = true := bne_iff_ne.mpr c7
         replace H := Option.bind_eq_some_iff.mp H
         obtain ⟨t168, A110, H⟩ := H
         replace H : (some t168) = some r := H
         have A11 := Aside0.mk A110
         clear A110
         obtain rfl := Option.some.inj H
         have p6 : 0 ≤ (0 : Int) := (by omega)
         have q6 : 0 < a0.size := (by have : (0 : Int) < (a0.size : Int) := of_decide_eq_true (by first | (with_reducible assumption) | assumption); omega)
         have hx6 : ∀ h : 0 < a0.size, ((a0[0]'h).toNat : Int) = bt a0 0 := bt_at a0 0
         clear p6
         have qi6 : (0 < (a0.size : Int)) = True := eq_true (of_decide_eq_true (by first | (with_reducible assumption) | assumption))
         replace q6 := eq_true q6
         go_enter Tryz.func41, Tryz.ntmps41
         go_wp2_with (first | ((with_reducible refine gate_callee (f := 60) rfl ?_); refine goesL_ (some 19) rfl rfl Tryz.func60 (by kernel_rfl) rfl #[.string a0] rfl (by (try simp only [List.map_toArray, List.map_cons, List.map_nil]); first | done | rfl | (simp only [List.length_drop, List.length_take]; rfl)) ?_; (with_reducible refine (penduleref01_IsName.calls k a0 t168 _ A11.out).mono ?_); rintro e w12 ⟨rfl, hb⟩; refine ⟨_, rfl, ?_⟩; have n0_ := Aside0.mk (below_step (by repeat (first | (with_reducible first | exact HB.out | apply below_alloc | apply pw_below_drewN | apply below_drew1) | exact HB.out)) hb); clear HB; have HB := n0_; clear n0_; (try clear hb); (try clear hb2); (try clear hk); (try clear hi)))
         go_ret
         exact ⟨by first | rfl | (simp [errW_none, errW_some] <;> rfl) | (simp [*, errW_none, errW_some] <;> rfl), by repeat (first | (with_reducible first | exact HB.out | apply below_alloc | apply pw_below_drewN | apply below_drew1) | exact HB.out)⟩
     · rw [if_neg c5] at H
       exact absurd H (by simp)
   · rw [if_neg c4] at H
     have c4b0 : decide (1 < (a0.size : Int)) = false := decide_eq_false c4
     have c4b1 : decide (1 < a0.size) = false := decide_eq_false (by omega)
     clear c4
     replace H := Option.bind_eq_some_iff.mp H
     obtain ⟨t169, A130, H⟩ := H
     replace H : (some t169) = some r := H
     have A13 := Aside0.mk A130
     clear A130
     obtain rfl := Option.some.inj H
     go_enter Tryz.func41, Tryz.ntmps41
     go_wp2_with (first | ((with_reducible refine gate_callee (f := 60) rfl ?_); refine goesL_ (some 19) rfl rfl Tryz.func60 (by kernel_rfl) rfl #[.string a0] rfl (by (try simp only [List.map_toArray, List.map_cons, List.map_nil]); first | done | rfl | (simp only [List.length_drop, List.length_take]; rfl)) ?_; (with_reducible refine (penduleref01_IsName.calls k a0 t169 _ A13.out).mono ?_); rintro e w14 ⟨rfl, hb⟩; refine ⟨_, rfl, ?_⟩; have n0_ := Aside0.mk (below_step (by repeat (first | (with_reducible first | exact HB.out | apply below_alloc | apply pw_below_drewN | apply below_drew1) | exact HB.out)) hb); clear HB; have HB := n0_; clear n0_; (try clear hb); (try clear hb2); (try clear hk); (try clear hi)))
     go_ret
     exact ⟨by first | rfl | (simp [errW_none, errW_some] <;> rfl) | (simp [*, errW_none, errW_some] <;> rfl), by repeat (first | (with_reducible first | exact HB.out | apply below_alloc | apply pw_below_drewN | apply below_drew1) | exact HB.out)⟩
 · replace c3 := Bool.eq_false_iff.mpr c3
   subst c3
   have H1 : ((penduleref01_IsName.f k a0).bind fun t170 => (some t170)) = some r := by rw [if_neg (show ¬ (false = true) by decide)] at H; exact H
   clear H
   have H := H1
   clear H1
   replace H := Option.bind_eq_some_iff.mp H
   obtain ⟨t170, A150, H⟩ := H
   replace H : (some t170) = some r := H
   have A15 := Aside0.mk A150
   clear A150
   obtain rfl := Option.some.inj H
   go_enter Tryz.func41, Tryz.ntmps41
   go_wp2_with (first | ((with_reducible refine gate_callee (f := 60) rfl ?_); refine goesL_ (some 19) rfl rfl Tryz.func60 (by kernel_rfl) rfl #[.string a0] rfl (by (try simp only [List.map_toArray, List.map_cons, List.map_nil]); first | done | rfl | (simp only [List.length_drop, List.length_take]; rfl)) ?_; (with_reducible refine (penduleref01_IsName.calls k a0 t170 _ A15.out).mono ?_); rintro e w16 ⟨rfl, hb⟩; refine ⟨_, rfl, ?_⟩; have n0_ := Aside0.mk (below_step (by repeat (first | (with_reducible first | exact HB.out | apply below_alloc | apply pw_below_drewN | apply below_drew1) | exact HB.out)) hb); clear HB; have HB := n0_; clear n0_; (try clear hb); (try clear hb2); (try clear hk); (try clear hi)))
   go_ret
   exact ⟨by first | rfl | (simp [errW_none, errW_some] <;> rfl) | (simp [*, errW_none, errW_some] <;> rfl), by repeat (first | (with_reducible first | exact HB.out | apply below_alloc | apply pw_below_drewN | apply below_drew1) | exact HB.out)⟩
def penduleref01_IsCon.f (k : Nat) (a0 : ByteArray) : Option (Bool) := if (a0.size : Int) ≥ 1 then (if (a0.size : Int) ≤ 24 then (if 0 < (a0.size : Int) then ((penduleref01_great.f (bt a0 0)).bind fun t171 => (if t171 = true then ((penduleref01_run.f k a0).bind fun t172 => (some (t172 == (a0.size : Int)))) else (some false))) else (none)) else (some false)) else (some false)
set_option maxHeartbeats 8000000 in
set_option maxRecDepth 100000 in
theorem penduleref01_IsCon.calls (k : Nat) (a0 : ByteArray) (r : Bool) (w : World) (h : penduleref01_IsCon.f k a0 = some r) :
   Calls Tryz.prog 87 #[.string a0] w fun e w' => e = .returned (.bool r) ∧ Drawn0 w w' := by
 have H : (if (a0.size : Int) ≥ 1 then (if (a0.size : Int) ≤ 24 then (if 0 < (a0.size : Int) then ((penduleref01_great.f (bt a0 0)).bind fun t171 => (if t171 = true then ((penduleref01_run.f k a0).bind fun t172 => (some (t172 == (a0.size : Int)))) else (some false))) else (none)) else (some false)) else (some false)) = some r := h
 clear h
 by_cases c2 : (a0.size : Int) ≥ 1
 · rw [if_pos c2] at H
   have c2b0 : decide (1 ≤ (a0.size : Int)) = true := decide_eq_true c2
   have c2b1 : decide (1 ≤ a0.size) = true := decide_eq_true (by omega)
   clear c2
   by_cases c3 : (a0.size : Int) ≤ 24
   · rw [if_pos c3] at H
     have c3b0 : decide ((a0.size : Int) ≤ 24) = true := decide_eq_true c3
     have c3b1 : decide (a0.size ≤ 24) = true := decide_eq_true (by omega)
     clear c3
     by_cases c4 : 0 < (a0.size : Int)
     · rw [if_pos c4] at H
       have c4b0 : decide (0 < (a0.size : Int)) = true := decide_eq_true c4
       have c4b1 : decide (0 < a0.size) = true := decide_eq_true (by omega)
       clear c4
       replace H := Option.bind_eq_some_iff.mp H
       obtain ⟨t171, A60, H⟩ := H
       replace H : (if t171 = true then ((penduleref01_run.f k a0).bind fun t172 => (some (t172 == (a0.size : Int)))) else (some false)) = some r := H
       have A6 := Aside0.mk A60
       clear A60
       by_cases c7 : t171 = true
       · subst c7
         have H1 : ((penduleref01_run.f k a0).bind fun t172 => (some (t172 == (a0.size : Int)))) = some r := by rw [if_pos rfl] at H; exact H
         clear H
         have H := H1
         clear H1
         replace H := Option.bind_eq_some_iff.mp H
         obtain ⟨t172, A80, H⟩ := H
         replace H : (some (t172 == (a0.size : Int))) = some r := H
         have A8 := Aside0.mk A80
         clear A80
         obtain rfl := Option.some.inj H
         have p5 : 0 ≤ (0 : Int) := (by omega)
         have q5 : 0 < a0.size := (by have : (0 : Int) < (a0.size : Int) := of_decide_eq_true (by first | (with_reducible assumption) | assumption); omega)
         have hx5 : ∀ h : 0 < a0.size, ((a0[0]'h).toNat : Int) = bt a0 0 := bt_at a0 0
         clear p5
         have qi5 : (0 < (a0.size : Int)) = True := eq_true (of_decide_eq_true (by first | (with_reducible assumption) | assumption))
         replace q5 := eq_true q5
         go_enter Tryz.func87, Tryz.ntmps87
         go_wp2_with (first | (go_at_call 107; (with_reducible refine (penduleref01_great.calls (bt a0 0) true _ A6.out).mono ?_); rintro e w' ⟨rfl, ⟨nd, rfl⟩⟩) | (go_at_call 85; (with_reducible refine (penduleref01_run.calls k a0 t172 _ A8.out).mono ?_); rintro e w' ⟨rfl, ⟨nd, rfl⟩⟩))
         go_ret
         exact ⟨by first | rfl | (simp; done) | (simp [*]; done), by repeat (first | exact Drawn0.refl _ | apply Drawn0.step)⟩
       · replace c7 := Bool.eq_false_iff.mpr c7
         subst c7
         have H1 : (some false) = some r := by rw [if_neg (show ¬ (false = true) by decide)] at H; exact H
         clear H
         have H := H1
         clear H1
         obtain rfl := Option.some.inj H
         have p5 : 0 ≤ (0 : Int) := (by omega)
         have q5 : 0 < a0.size := (by have : (0 : Int) < (a0.size : Int) := of_decide_eq_true (by first | (with_reducible assumption) | assumption); omega)
         have hx5 : ∀ h : 0 < a0.size, ((a0[0]'h).toNat : Int) = bt a0 0 := bt_at a0 0
         clear p5
         have qi5 : (0 < (a0.size : Int)) = True := eq_true (of_decide_eq_true (by first | (with_reducible assumption) | assumption))
         replace q5 := eq_true q5
         go_enter Tryz.func87, Tryz.ntmps87
         go_wp2_with (first | (go_at_call 107; (with_reducible refine (penduleref01_great.calls (bt a0 0) false _ A6.out).mono ?_); rintro e w' ⟨rfl, ⟨nd, rfl⟩⟩))
         go_ret
         exact ⟨by first | rfl | (simp; done) | (simp [*]; done), by repeat (first | exact Drawn0.refl _ | apply Drawn0.step)⟩
     · rw [if_neg c4] at H
       exact absurd H (by simp)
   · rw [if_neg c3] at H
     have c3b0 : decide ((a0.size : Int) ≤ 24) = false := decide_eq_false c3
     have c3b1 : decide (a0.size ≤ 24) = false := decide_eq_false (by omega)
     clear c3
     obtain rfl := Option.some.inj H
     go_enter Tryz.func87, Tryz.ntmps87
     go_wp2
     go_ret
     exact ⟨by first | rfl | (simp; done) | (simp [*]; done), by repeat (first | exact Drawn0.refl _ | apply Drawn0.step)⟩
 · rw [if_neg c2] at H
   have c2b0 : decide (1 ≤ (a0.size : Int)) = false := decide_eq_false c2
   have c2b1 : decide (1 ≤ a0.size) = false := decide_eq_false (by omega)
   clear c2
   obtain rfl := Option.some.inj H
   go_enter Tryz.func87, Tryz.ntmps87
   go_wp2
   go_ret
   exact ⟨by first | rfl | (simp; done) | (simp [*]; done), by repeat (first | exact Drawn0.refl _ | apply Drawn0.step)⟩
def penduleref02_Constructor.f (k : Nat) (a0 : ByteArray) (a1 : Bool) : Option (Bool) := if a1 = true then (if (a0.size : Int) > 1 then (if 0 < (a0.size : Int) then (if (bt a0 0) = 95 then (if 1 ≤ (a0.size : Int) then ((penduleref01_IsCon.f k (a0.extract 1 a0.size)).bind fun t173 => (some t173)) else (none)) else ((penduleref01_IsCon.f k a0).bind fun t174 => (some t174))) else (none)) else ((penduleref01_IsCon.f k a0).bind fun t175 => (some t175))) else ((penduleref01_IsCon.f k a0).bind fun t176 => (some t176))
set_option maxHeartbeats 8000000 in
set_option maxRecDepth 100000 in
theorem penduleref02_Constructor.calls (k : Nat) (a0 : ByteArray) (a1 : Bool) (r : Bool) (w : World) (h : penduleref02_Constructor.f k a0 a1 = some r) :
   Calls Tryz.prog 61 #[.string a0, .bool a1] w fun e w' => e = .returned (.bool r) ∧ Drawn0 w w' := by
 have H : (if a1 = true then (if (a0.size : Int) > 1 then (if 0 < (a0.size : Int) then (if (bt a0 0) = 95 then (if 1 ≤ (a0.size : Int) then ((penduleref01_IsCon.f k (a0.extract 1 a0.size)).bind fun t173 => (some t173)) else (none)) else ((penduleref01_IsCon.f k a0).bind fun t174 => (some t174))) else (none)) else ((penduleref01_IsCon.f k a0).bind fun t175 => (some t175))) else ((penduleref01_IsCon.f k a0).bind fun t176 => (some t176))) = some r := h
 clear h
 by_cases c3 : a1 = true
 · subst c3
   have H1 : (if (a0.size : Int) > 1 then (if 0 < (a0.size : Int) then (if (bt a0 0) = 95 then (if 1 ≤ (a0.size : Int) then ((penduleref01_IsCon.f k (a0.extract 1 a0.size)).bind fun t173 => (some t173)) else (none)) else ((penduleref01_IsCon.f k a0).bind fun t174 => (some t174))) else (none)) else ((penduleref01_IsCon.f k a0).bind fun t175 => (some t175))) = some r := by rw [if_pos rfl] at H; exact H
   clear H
   have H := H1
   clear H1
   by_cases c4 : (a0.size : Int) > 1
   · rw [if_pos c4] at H
     have c4b0 : decide (1 < (a0.size : Int)) = true := decide_eq_true c4
     have c4b1 : decide (1 < a0.size) = true := decide_eq_true (by omega)
     clear c4
     by_cases c5 : 0 < (a0.size : Int)
     · rw [if_pos c5] at H
       have c5b0 : decide (0 < (a0.size : Int)) = true := decide_eq_true c5
       have c5b1 : decide (0 < a0.size) = true := decide_eq_true (by omega)
       clear c5
       by_cases c7 : (bt a0 0) = 95
       · rw [if_pos c7] at H
         have c7b0 : ((bt a0 0) == 95) = true := beq_iff_eq.mpr c7
         have c7b1 : ((bt a0 0) != 95) = false := bne_eq_false_iff_eq.mpr c7
         clear c7
         by_cases c8 : 1 ≤ (a0.size : Int)
         · rw [if_pos c8] at H
           have c8b0 := eq_true c8
           have c8b1 : decide (1 ≤ (a0.size : Int)) = true := decide_eq_true c8
           clear c8
           replace H := Option.bind_eq_some_iff.mp H
           obtain ⟨t173, A90, H⟩ := H
           replace H : (some t173) = some r := H
           have A9 := Aside0.mk A90
           clear A90
           obtain rfl := Option.some.inj H
           have p6 : 0 ≤ (0 : Int) := (by omega)
           have q6 : 0 < a0.size := (by have : (0 : Int) < (a0.size : Int) := of_decide_eq_true (by first | (with_reducible assumption) | assumption); omega)
           have hx6 : ∀ h : 0 < a0.size, ((a0[0]'h).toNat : Int) = bt a0 0 := bt_at a0 0
           clear p6
           have qi6 : (0 < (a0.size : Int)) = True := eq_true (of_decide_eq_true (by first | (with_reducible assumption) | assumption))
           replace q6 := eq_true q6
           go_enter Tryz.func61, Tryz.ntmps61
           go_wp2_with (first | ((with_reducible refine gate_callee (f := 87) rfl ?_); refine goesL_ (some 19) rfl rfl Tryz.func87 (by kernel_rfl) rfl #[.string (a0.extract 1 a0.size)] rfl (by (try simp only [List.map_toArray, List.map_cons, List.map_nil]); first | done | rfl | (simp only [List.length_drop, List.length_take]; rfl)) ?_; (with_reducible refine (penduleref01_IsCon.calls k (a0.extract 1 a0.size) t173 _ A9.out).mono ?_); rintro e w' ⟨rfl, ⟨nd, rfl⟩⟩; refine ⟨_, rfl, ?_⟩))
           go_ret
           exact ⟨by first | rfl | (simp; done) | (simp [*]; done), by repeat (first | exact Drawn0.refl _ | apply Drawn0.step)⟩
         · rw [if_neg c8] at H
           exact absurd H (by simp)
       · rw [if_neg c7] at H
         have c7b0 : ((bt a0 0) == 95) = false := beq_eq_false_iff_ne.mpr c7
         have c7b1 : ((bt a0 0) != 95) = true := bne_iff_ne.mpr c7
         replace H := Option.bind_eq_some_iff.mp H
         obtain ⟨t174, A100, H⟩ := H
         replace H : (some t174) = some r := H
         have A10 := Aside0.mk A100
         clear A100
         obtain rfl := Option.some.inj H
         have p6 : 0 ≤ (0 : Int) := (by omega)
         have q6 : 0 < a0.size := (by have : (0 : Int) < (a0.size : Int) := of_decide_eq_true (by first | (with_reducible assumption) | assumption); omega)
         have hx6 : ∀ h : 0 < a0.size, ((a0[0]'h).toNat : Int) = bt a0 0 := bt_at a0 0
         clear p6
         have qi6 : (0 < (a0.size : Int)) = True := eq_true (of_decide_eq_true (by first | (with_reducible assumption) | assumption))
         replace q6 := eq_true q6
         go_enter Tryz.func61, Tryz.ntmps61
         go_wp2_with (first | ((with_reducible refine gate_callee (f := 87) rfl ?_); refine goesL_ (some 19) rfl rfl Tryz.func87 (by kernel_rfl) rfl #[.string a0] rfl (by (try simp only [List.map_toArray, List.map_cons, List.map_nil]); first | done | rfl | (simp only [List.length_drop, List.length_take]; rfl)) ?_; (with_reducible refine (penduleref01_IsCon.calls k a0 t174 _ A10.out).mono ?_); rintro e w' ⟨rfl, ⟨nd, rfl⟩⟩; refine ⟨_, rfl, ?_⟩))
         go_ret
         exact ⟨by first | rfl | (simp; done) | (simp [*]; done), by repeat (first | exact Drawn0.refl _ | apply Drawn0.step)⟩
     · rw [if_neg c5] at H
       exact absurd H (by simp)
   · rw [if_neg c4] at H
     have c4b0 : decide (1 < (a0.size : Int)) = false := decide_eq_false c4
     have c4b1 : decide (1 < a0.size) = false := decide_eq_false (by omega)
     clear c4
     replace H := Option.bind_eq_some_iff.mp H
     obtain ⟨t175, A110, H⟩ := H
     replace H : (some t175) = some r := H
     have A11 := Aside0.mk A110
     clear A110
     obtain rfl := Option.some.inj H
     go_enter Tryz.func61, Tryz.ntmps61
     go_wp2_with (first | ((with_reducible refine gate_callee (f := 87) rfl ?_); refine goesL_ (some 19) rfl rfl Tryz.func87 (by kernel_rfl) rfl #[.string a0] rfl (by (try simp only [List.map_toArray, List.map_cons, List.map_nil]); first | done | rfl | (simp only [List.length_drop, List.length_take]; rfl)) ?_; (with_reducible refine (penduleref01_IsCon.calls k a0 t175 _ A11.out).mono ?_); rintro e w' ⟨rfl, ⟨nd, rfl⟩⟩; refine ⟨_, rfl, ?_⟩))
     go_ret
     exact ⟨by first | rfl | (simp; done) | (simp [*]; done), by repeat (first | exact Drawn0.refl _ | apply Drawn0.step)⟩
 · replace c3 := Bool.eq_false_iff.mpr c3
   subst c3
   have H1 : ((penduleref01_IsCon.f k a0).bind fun t176 => (some t176)) = some r := by rw [if_neg (show ¬ (false = true) by decide)] at H; exact H
   clear H
   have H := H1
   clear H1
   replace H := Option.bind_eq_some_iff.mp H
   obtain ⟨t176, A120, H⟩ := H
   replace H : (some t176) = some r := H
   have A12 := Aside0.mk A120
   clear A120
   obtain rfl := Option.some.inj H
   go_enter Tryz.func61, Tryz.ntmps61
   go_wp2_with (first | ((with_reducible refine gate_callee (f := 87) rfl ?_); refine goesL_ (some 19) rfl rfl Tryz.func87 (by kernel_rfl) rfl #[.string a0] rfl (by (try simp only [List.map_toArray, List.map_cons, List.map_nil]); first | done | rfl | (simp only [List.length_drop, List.length_take]; rfl)) ?_; (with_reducible refine (penduleref01_IsCon.calls k a0 t176 _ A12.out).mono ?_); rintro e w' ⟨rfl, ⟨nd, rfl⟩⟩; refine ⟨_, rfl, ?_⟩))
   go_ret
   exact ⟨by first | rfl | (simp; done) | (simp [*]; done), by repeat (first | exact Drawn0.refl _ | apply Drawn0.step)⟩
def penduleref02_Cons.l0 : Nat → List ByteArray → Int → Int → Bool → Int → Option (Bool)
 | 0, _, _, _, _, _ => none
 | k + 1, x0, x1, x2, x3, x9 => if x9 < (x0.length : Int) then (if 0 ≤ x9 then ((penduleref02_Constructor.f k (rdOf ByteArray.empty x0 x9) x3).bind fun t178 => (if t178 = true then (penduleref02_Cons.l0 k x0 x1 x2 x3 (wrap64 (x9 + 1))) else (some false))) else (none)) else (if (x0.length : Int) ≥ x1 then (some (decide ((x0.length : Int) ≤ x2))) else (some false))
def penduleref02_Cons.f (k : Nat) (l0 : List ByteArray) (a1 : Int) (a2 : Int) (a3 : Bool) : Option (Bool) := penduleref02_Cons.l0 k l0 a1 a2 a3 0
set_option maxHeartbeats 8000000 in
set_option maxRecDepth 100000 in
theorem penduleref02_Cons.calls (k : Nat) (A0 : Option Addr) (c0 : Nat) (l0 : List ByteArray) (a1 : Int) (a2 : Int) (a3 : Bool) (r : Bool) (w : World) (hr0 : Kd.C Kd.string w A0 l0.length l0) (hc0 : l0.length ≤ c0) (h : penduleref02_Cons.f k l0 a1 a2 a3 = some r) :
   Calls Tryz.prog 42 #[.slice A0 l0.length c0, .int .i64 a1, .int .i64 a2, .bool a3] w fun e w' => e = .returned (.bool r) ∧ Drawn0 w w' := by
 have HR0 := Aside0.mk hr0
 have HC0 := Aside0.mk hc0
 clear hr0 hc0
 have H : (penduleref02_Cons.l0 k l0 a1 a2 a3 0) = some r := h
 clear h
 have H' := Aside0.mk H
 clear H
 go_enter Tryz.func42, Tryz.ntmps42
 go_wp2
 go_loopg [9] k (fun kq v9 w' => ∃ (x9_1 : Int), v9 = .int .i64 x9_1 ∧ Aside0 (penduleref02_Cons.l0 kq l0 a1 a2 a3 x9_1 = some r) ∧ Aside0 (kq ≤ k) ∧ Drawn0 w w')
 case atStart => exact ⟨(0), (by first | rfl | (simp; done) | (simp [*]; done)), H', ⟨Nat.le_refl _⟩, by repeat (first | exact Drawn0.refl _ | apply Drawn0.step)⟩
 case round =>
   clear H'
   try clear p2
   try clear c4
   obtain ⟨x9_1, rfl, HA, HK1, ⟨m1, rfl⟩⟩ := hrel
   cases gk with
   | zero => exact absurd HA.out (by simp [penduleref02_Cons.l0])
   | succ k1 =>
     have H := HA.out
     clear HA
     simp only [penduleref02_Cons.l0] at H
     by_cases c5 : x9_1 < (l0.length : Int)
     · rw [if_pos c5] at H
       have c5b0 : decide (x9_1 < (l0.length : Int)) = true := decide_eq_true c5
       clear c5
       by_cases c6 : 0 ≤ x9_1
       · rw [if_pos c6] at H
         have c6b0 : decide (0 ≤ x9_1) = true := decide_eq_true c6
         clear c6
         replace H := Option.bind_eq_some_iff.mp H
         obtain ⟨t178, A70, H⟩ := H
         replace H : (if t178 = true then (penduleref02_Cons.l0 k1 l0 a1 a2 a3 (wrap64 (x9_1 + 1))) else (some false)) = some r := H
         have A7 := Aside0.mk A70
         clear A70
         by_cases c8 : t178 = true
         · subst c8
           have H1 : (penduleref02_Cons.l0 k1 l0 a1 a2 a3 (wrap64 (x9_1 + 1))) = some r := by rw [if_pos rfl] at H; exact H
           clear H
           have H := H1
           clear H1
           have H' := Aside0.mk H
           clear H
           have p177 : 0 ≤ (x9_1 : Int) := of_decide_eq_true (by first | (with_reducible assumption) | assumption)
           have q177 : x9_1 < (l0.length : Int) := of_decide_eq_true (by first | (with_reducible assumption) | assumption)
           obtain ⟨ad177, e177, hx177_0⟩ := Kd.at_string HR0.out x9_1 p177 q177
           cases e177
           replace p177 := eq_true p177
           replace q177 := eq_true q177
           go_wp2_with (first | ((with_reducible refine gate_callee (f := 61) rfl ?_); refine goesL_ (some 21) rfl rfl Tryz.func61 (by kernel_rfl) rfl #[.string (rdOf ByteArray.empty l0 x9_1), .bool a3] rfl (by (try simp only [List.map_toArray, List.map_cons, List.map_nil]); first | done | rfl | (simp only [List.length_drop, List.length_take]; rfl)) ?_; (with_reducible refine (penduleref02_Constructor.calls k1 (rdOf ByteArray.empty l0 x9_1) a3 true _ A7.out).mono ?_); rintro e w' ⟨rfl, ⟨nd, rfl⟩⟩; refine ⟨_, rfl, ?_⟩))
           go_roundg k1
           case measure => have := HK1.out; omega
           case rel => exact ⟨(wrap64 (x9_1 + 1)), (by first | rfl | (simp; done) | (simp [*]; done)), H', ⟨by have := HK1.out; omega⟩, by repeat (first | exact Drawn0.refl _ | apply Drawn0.step)⟩
         · replace c8 := Bool.eq_false_iff.mpr c8
           subst c8
           have H1 : (some false) = some r := by rw [if_neg (show ¬ (false = true) by decide)] at H; exact H
           clear H
           have H := H1
           clear H1
           obtain rfl := Option.some.inj H
           have p177 : 0 ≤ (x9_1 : Int) := of_decide_eq_true (by first | (with_reducible assumption) | assumption)
           have q177 : x9_1 < (l0.length : Int) := of_decide_eq_true (by first | (with_reducible assumption) | assumption)
           obtain ⟨ad177, e177, hx177_0⟩ := Kd.at_string HR0.out x9_1 p177 q177
           cases e177
           replace p177 := eq_true p177
           replace q177 := eq_true q177
           go_wp2_with (first | ((with_reducible refine gate_callee (f := 61) rfl ?_); refine goesL_ (some 21) rfl rfl Tryz.func61 (by kernel_rfl) rfl #[.string (rdOf ByteArray.empty l0 x9_1), .bool a3] rfl (by (try simp only [List.map_toArray, List.map_cons, List.map_nil]); first | done | rfl | (simp only [List.length_drop, List.length_take]; rfl)) ?_; (with_reducible refine (penduleref02_Constructor.calls k1 (rdOf ByteArray.empty l0 x9_1) a3 false _ A7.out).mono ?_); rintro e w' ⟨rfl, ⟨nd, rfl⟩⟩; refine ⟨_, rfl, ?_⟩))
           go_ret
           exact ⟨by first | rfl | (simp; done) | (simp [*]; done), by repeat (first | exact Drawn0.refl _ | apply Drawn0.step)⟩
       · rw [if_neg c6] at H
         exact absurd H (by simp)
     · rw [if_neg c5] at H
       have c5b0 : decide (x9_1 < (l0.length : Int)) = false := decide_eq_false c5
       clear c5
       by_cases c9 : (l0.length : Int) ≥ a1
       · rw [if_pos c9] at H
         have c9b0 : decide (a1 ≤ (l0.length : Int)) = true := decide_eq_true c9
         clear c9
         obtain rfl := Option.some.inj H
         go_wp2
         go_ret
         exact ⟨by first | rfl | (simp; done) | (simp [*]; done), by repeat (first | exact Drawn0.refl _ | apply Drawn0.step)⟩
       · rw [if_neg c9] at H
         have c9b0 : decide (a1 ≤ (l0.length : Int)) = false := decide_eq_false c9
         clear c9
         obtain rfl := Option.some.inj H
         go_wp2
         go_ret
         exact ⟨by first | rfl | (simp; done) | (simp [*]; done), by repeat (first | exact Drawn0.refl _ | apply Drawn0.step)⟩
def penduleref02_Names.l0 : Nat → List ByteArray → Int → Int → Bool → Int → Option (Bool)
 | 0, _, _, _, _, _ => none
 | k + 1, x0, x1, x2, x3, x9 => if x9 < (x0.length : Int) then (if 0 ≤ x9 then ((penduleref02_Name.f k (rdOf ByteArray.empty x0 x9) x3).bind fun t180 => (if t180 = true then (penduleref02_Names.l0 k x0 x1 x2 x3 (wrap64 (x9 + 1))) else (some false))) else (none)) else (if (x0.length : Int) ≥ x1 then (some (decide ((x0.length : Int) ≤ x2))) else (some false))
def penduleref02_Names.f (k : Nat) (l0 : List ByteArray) (a1 : Int) (a2 : Int) (a3 : Bool) : Option (Bool) := penduleref02_Names.l0 k l0 a1 a2 a3 0
set_option maxHeartbeats 8000000 in
set_option maxRecDepth 100000 in
theorem penduleref02_Names.calls (k : Nat) (A0 : Option Addr) (c0 : Nat) (l0 : List ByteArray) (a1 : Int) (a2 : Int) (a3 : Bool) (r : Bool) (w : World) (hr0 : Kd.C Kd.string w A0 l0.length l0) (hc0 : l0.length ≤ c0) (h : penduleref02_Names.f k l0 a1 a2 a3 = some r) :
   Calls Tryz.prog 43 #[.slice A0 l0.length c0, .int .i64 a1, .int .i64 a2, .bool a3] w fun e w' => e = .returned (.bool r) ∧ Below w.heap.size w w' := by
 have HR0 := Aside0.mk hr0
 have HC0 := Aside0.mk hc0
 clear hr0 hc0
 have HB := Aside0.mk (Below.refl w.heap.size w)
 have H : (penduleref02_Names.l0 k l0 a1 a2 a3 0) = some r := h
 clear h
 have H' := Aside0.mk H
 clear H
 go_enter Tryz.func43, Tryz.ntmps43
 go_wp2
 go_loopg [9] k (fun kq v9 w' => ∃ (x9_1 : Int), v9 = .int .i64 x9_1 ∧ Aside0 (penduleref02_Names.l0 kq l0 a1 a2 a3 x9_1 = some r) ∧ Aside0 (kq ≤ k) ∧ Aside0 (Below w.heap.size w w'))
 case atStart => exact ⟨(0), (by first | rfl | (simp; done) | (simp [*]; done)), H', ⟨Nat.le_refl _⟩, ⟨by repeat (first | (with_reducible first | exact HB.out | apply below_alloc | apply pw_below_drewN | apply below_drew1) | exact HB.out)⟩⟩
 case round =>
   clear H'
   try clear p2
   try clear c4
   obtain ⟨x9_1, rfl, HA, HK1, HB⟩ := hrel
   cases gk with
   | zero => exact absurd HA.out (by simp [penduleref02_Names.l0])
   | succ k1 =>
     have H := HA.out
     clear HA
     simp only [penduleref02_Names.l0] at H
     by_cases c5 : x9_1 < (l0.length : Int)
     · rw [if_pos c5] at H
       have c5b0 : decide (x9_1 < (l0.length : Int)) = true := decide_eq_true c5
       clear c5
       by_cases c6 : 0 ≤ x9_1
       · rw [if_pos c6] at H
         have c6b0 : decide (0 ≤ x9_1) = true := decide_eq_true c6
         clear c6
         replace H := Option.bind_eq_some_iff.mp H
         obtain ⟨t180, A70, H⟩ := H
         replace H : (if t180 = true then (penduleref02_Names.l0 k1 l0 a1 a2 a3 (wrap64 (x9_1 + 1))) else (some false)) = some r := H
         have A7 := Aside0.mk A70
         clear A70
         by_cases c8 : t180 = true
         · subst c8
           have H1 : (penduleref02_Names.l0 k1 l0 a1 a2 a3 (wrap64 (x9_1 + 1))) = some r := by rw [if_pos rfl] at H; exact H
           clear H
           have H := H1
           clear H1
           have H' := Aside0.mk H
           clear H
           have p179 : 0 ≤ (x9_1 : Int) := of_decide_eq_true (by first | (with_reducible assumption) | assumption)
           have q179 : x9_1 < (l0.length : Int) := of_decide_eq_true (by first | (with_reducible assumption) | assumption)
           obtain ⟨ad179, e179, hx179_0⟩ := Kd.at_string HR0.out x9_1 p179 q179
           cases e179
           replace hx179_0 := (HB.out.cell (World.block_lt_of_cell? w _ hx179_0)).trans hx179_0
           replace p179 := eq_true p179
           replace q179 := eq_true q179
           go_wp2_with (first | ((with_reducible refine gate_callee (f := 41) rfl ?_); refine goesL_ (some 21) rfl rfl Tryz.func41 (by kernel_rfl) rfl #[.string (rdOf ByteArray.empty l0 x9_1), .bool a3] rfl (by (try simp only [List.map_toArray, List.map_cons, List.map_nil]); first | done | rfl | (simp only [List.length_drop, List.length_take]; rfl)) ?_; (with_reducible refine (penduleref02_Name.calls k1 (rdOf ByteArray.empty l0 x9_1) a3 true _ A7.out).mono ?_); rintro e w9 ⟨rfl, hb⟩; refine ⟨_, rfl, ?_⟩; have n0_ := Aside0.mk (below_step (by repeat (first | (with_reducible first | exact HB.out | apply below_alloc | apply pw_below_drewN | apply below_drew1) | exact HB.out)) hb); clear HB; have HB := n0_; clear n0_; (try clear hb); (try clear hb2); (try clear hk); (try clear hi)))
           go_roundg k1
           case measure => have := HK1.out; omega
           case rel => exact ⟨(wrap64 (x9_1 + 1)), (by first | rfl | (simp; done) | (simp [*]; done)), H', ⟨by have := HK1.out; omega⟩, ⟨by repeat (first | (with_reducible first | exact HB.out | apply below_alloc | apply pw_below_drewN | apply below_drew1) | exact HB.out)⟩⟩
         · replace c8 := Bool.eq_false_iff.mpr c8
           subst c8
           have H1 : (some false) = some r := by rw [if_neg (show ¬ (false = true) by decide)] at H; exact H
           clear H
           have H := H1
           clear H1
           obtain rfl := Option.some.inj H
           have p179 : 0 ≤ (x9_1 : Int) := of_decide_eq_true (by first | (with_reducible assumption) | assumption)
           have q179 : x9_1 < (l0.length : Int) := of_decide_eq_true (by first | (with_reducible assumption) | assumption)
           obtain ⟨ad179, e179, hx179_0⟩ := Kd.at_string HR0.out x9_1 p179 q179
           cases e179
           replace hx179_0 := (HB.out.cell (World.block_lt_of_cell? w _ hx179_0)).trans hx179_0
           replace p179 := eq_true p179
           replace q179 := eq_true q179
           go_wp2_with (first | ((with_reducible refine gate_callee (f := 41) rfl ?_); refine goesL_ (some 21) rfl rfl Tryz.func41 (by kernel_rfl) rfl #[.string (rdOf ByteArray.empty l0 x9_1), .bool a3] rfl (by (try simp only [List.map_toArray, List.map_cons, List.map_nil]); first | done | rfl | (simp only [List.length_drop, List.length_take]; rfl)) ?_; (with_reducible refine (penduleref02_Name.calls k1 (rdOf ByteArray.empty l0 x9_1) a3 false _ A7.out).mono ?_); rintro e w10 ⟨rfl, hb⟩; refine ⟨_, rfl, ?_⟩; have n0_ := Aside0.mk (below_step (by repeat (first | (with_reducible first | exact HB.out | apply below_alloc | apply pw_below_drewN | apply below_drew1) | exact HB.out)) hb); clear HB; have HB := n0_; clear n0_; (try clear hb); (try clear hb2); (try clear hk); (try clear hi)))
           go_ret
           exact ⟨by first | rfl | (simp [errW_none, errW_some] <;> rfl) | (simp [*, errW_none, errW_some] <;> rfl), by repeat (first | (with_reducible first | exact HB.out | apply below_alloc | apply pw_below_drewN | apply below_drew1) | exact HB.out)⟩
       · rw [if_neg c6] at H
         exact absurd H (by simp)
     · rw [if_neg c5] at H
       have c5b0 : decide (x9_1 < (l0.length : Int)) = false := decide_eq_false c5
       clear c5
       by_cases c11 : (l0.length : Int) ≥ a1
       · rw [if_pos c11] at H
         have c11b0 : decide (a1 ≤ (l0.length : Int)) = true := decide_eq_true c11
         clear c11
         obtain rfl := Option.some.inj H
         go_wp2
         go_ret
         exact ⟨by first | rfl | (simp [errW_none, errW_some] <;> rfl) | (simp [*, errW_none, errW_some] <;> rfl), by repeat (first | (with_reducible first | exact HB.out | apply below_alloc | apply pw_below_drewN | apply below_drew1) | exact HB.out)⟩
       · rw [if_neg c11] at H
         have c11b0 : decide (a1 ≤ (l0.length : Int)) = false := decide_eq_false c11
         clear c11
         obtain rfl := Option.some.inj H
         go_wp2
         go_ret
         exact ⟨by first | rfl | (simp [errW_none, errW_some] <;> rfl) | (simp [*, errW_none, errW_some] <;> rfl), by repeat (first | (with_reducible first | exact HB.out | apply below_alloc | apply pw_below_drewN | apply below_drew1) | exact HB.out)⟩
end Go.Proofs.YtggfnbnochmkdaaGreat.PScope
