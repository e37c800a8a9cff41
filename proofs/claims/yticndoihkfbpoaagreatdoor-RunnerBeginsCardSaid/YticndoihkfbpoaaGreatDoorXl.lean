/- The law's lives: what is read of a sum's text, and what it costs. -/
import Derived.StillTailTactics
import Derived.Deep.RegionLaw
import Derived.Test.YticndoihkfbpoaaGreatDoorVh
import Derived.Test.YticndoihkfbpoaaGreatDoorUr
import Derived.Test.YticndoihkfbpoaaGreatDoorXk
namespace Go.Proofs.YticndoihkfbpoaaGreatDoor
open Go Go.RowKit Go.Lib Go.Proofs.YticndoihkfbpoaaGreatDoorW.PrintWords Go.Proofs.YticndoihkfbpoaaGreatDoor.PScope
set_option maxRecDepth 100000
set_option linter.unusedSimpArgs false
set_option linter.unusedVariables false

def sumS : ByteArray := ⟨#[102, 117, 110, 32, 40, 32, 120, 48, 32, 41, 32, 61, 32, 40, 32, 120, 49, 32, 41, 32, 99, 101, 108, 108, 115, 32, 50, 32, 102, 108, 97, 103, 115, 32, 123, 32, 49, 32, 59, 32, 125, 32, 112, 97, 114, 116, 115, 32, 123, 32, 125, 32, 123, 32, 120, 49, 32, 61, 32, 40, 32, 105, 102, 32, 109, 32, 91, 32, 49, 32, 93, 32, 116, 104, 101, 110, 32, 48, 32, 101, 108, 115, 101, 32, 109, 32, 91, 32, 48, 32, 93, 32, 41, 32, 59, 32, 120, 50, 32, 61, 32, 40, 32, 120, 49, 32, 43, 32, 120, 48, 32, 41, 32, 59, 32, 109, 32, 91, 32, 49, 32, 93, 32, 61, 32, 48, 32, 59, 32, 109, 32, 91, 32, 48, 32, 93, 32, 61, 32, 120, 50, 32, 59, 32, 125]⟩
def sumL : List FF := match parseP sumS with | .ok l => l | .error _ => []
theorem parse_sum : parseP sumS = .ok sumL := by kernel_rfl
theorem sum_arms : (sumL.all (fun f => f.body.all (fun s => s.arms.isEmpty) && decide (f.body.length ≤ 1000))) = true := by kernel_rfl
theorem sum_len : sumL.length = 1 := by kernel_rfl
theorem small_plain {l : List FS} (h : l.all (fun s => s.arms.isEmpty) = true) (hl : l.length ≤ 1000) : Small l := by
  refine ⟨l, by omega, fun s hs => ?_, fun s hs a ha => ?_⟩
  · have := List.all_eq_true.1 h s hs
    rw [List.isEmpty_iff] at this
    rw [this]; decide
  · have := List.all_eq_true.1 h s hs
    rw [List.isEmpty_iff] at this
    rw [this] at ha
    cases ha
theorem sum_small : FlatSmall sumL := by
  have h := sum_arms
  rw [List.all_eq_true] at h
  refine ⟨by rw [sum_len]; decide, fun f hf => ?_, fun f hf => ?_⟩
  · have := h f hf
    rw [Bool.and_eq_true, decide_eq_true_eq] at this
    exact small_plain this.1 this.2
  · have := h f hf
    rw [Bool.and_eq_true, decide_eq_true_eq] at this
    omega
theorem parse_sum_calls (s : ByteArray) (hs : s = sumS) (w : World) (hL : LaidR w) :
    Calls Tryz.prog 33 #[.string s] w fun e w' => ∃ (A : Option Addr) (c : Nat), e = .returned (.tuple #[.agg #[.slice A sumL.length c], .agg #[.int .i64 0, .int .i64 0, .int .i64 0]]) ∧ Below w.heap.size w w' ∧ kFF.C w' A sumL.length sumL := by
  subst hs
  refine (parse_calls sumS w (by decide) hL).mono ?_
  intro e w' h
  unfold ParsePost at h
  rw [parse_sum] at h
  obtain ⟨v, er, a, rfl, hb, rfl, rfl, hR⟩ := h
  obtain ⟨A, c, rfl, _, hC⟩ := Kd.R_reads hR
  exact ⟨A, c, rfl, hb, hC⟩
end Go.Proofs.YticndoihkfbpoaaGreatDoor
namespace Go.Proofs.YticndoihkfbpoaaGreatDoor
open Go Go.RowKit Go.Lib Go.Proofs.YticndoihkfbpoaaGreatDoorW.PrintWords Go.Proofs.YticndoihkfbpoaaGreatDoor.PScope
set_option maxRecDepth 100000
set_option linter.unusedSimpArgs false
set_option linter.unusedVariables false
attribute [local irreducible] wpStill

/-- How many cells are defined. -/
def defN (m : List Cl) : Nat := (m.filter (fun c => c.2)).length
theorem defN_le (m : List Cl) : defN m ≤ m.length := List.length_filter_le _ _
theorem defN_take {m : List Cl} {k : Nat} (h : k < m.length) : defN (m.take (k + 1)) = defN (m.take k) + (if (m.getD k nilC).2 = true then 1 else 0) := by
  unfold defN
  rw [List.take_add_one, List.filter_append, List.length_append, List.getD_eq_getElem?_getD, List.getElem?_eq_getElem h]
  simp only [Option.toList_some, Option.getD_some, List.filter_cons, List.filter_nil]
  split <;> rfl
section
variable {w0 w : World} {g : Nat} {ma : Addr} {A : Option Addr} {c : Nat} {l : List FF} {N : Nat} {m : List Cl} {tr : Bool} {cn : Int}
theorem rcount_calls (h : RAt w0 w g ma A c l N m tr cn) : Calls Tryz.prog 28 #[.pointer (some ⟨g, 0, none⟩)] w fun e w' => e = .returned (.int .i64 cn) ∧ w' = w := by
  have y3 := (blk_cell h.blk 3).trans rfl
  clear h
  go_enter Tryz.func28, Tryz.ntmps28
  go_wp2_with fail
  go_ret
  exact ⟨rfl, rfl⟩
theorem rcells_calls (h : RAt w0 w g ma A c l N m tr cn) : Calls Tryz.prog 31 #[.pointer (some ⟨g, 0, none⟩)] w fun e w' => e = .returned (.int .i64 (N : Int)) ∧ w' = w := by
  have y3 := (blk_cell h.blk 1).trans rfl
  clear h
  go_enter Tryz.func31, Tryz.ntmps31
  go_wp2_with fail
  go_ret
  exact ⟨rfl, rfl⟩
set_option maxHeartbeats 2000000 in
theorem rdefined_calls (h : RAt w0 w g ma A c l N m tr cn) : Calls Tryz.prog 29 #[.pointer (some ⟨g, 0, none⟩)] w fun e w' => e = .returned (.int .i64 (defN m : Int)) ∧ Below w.heap.size w w' := by
  have y1 := (blk_cell h.blk 1).trans rfl
  have HM := Aside0.mk h.mem
  have hN := h.len
  have hF := h.few
  subst hN
  clear h
  go_enter Tryz.func29, Tryz.ntmps29
  go_wp2_with fail
  go_loopg [3, 13] m.length (fun gg s3 s13 wr => ∃ kk : Nat, kk ≤ m.length ∧ m.length - kk ≤ gg ∧ s13 = .int .i64 kk ∧ s3 = .int .i64 (defN (m.take kk) : Int) ∧ Aside0 (Below w.heap.size w wr))
  case atStart => exact ⟨0, Nat.zero_le _, by omega, rfl, rfl, ⟨Below.refl _ _⟩⟩
  case round =>
    obtain ⟨kk, hkk, hgk, rfl, rfl, HB⟩ := hrel
    by_cases hlt : kk < m.length
    · have hltz : (kk : Int) < (m.length : Int) := by omega
      have HD := Aside0.mk (defN_take hlt)
      have HL := Aside0.mk (show defN (m.take kk) ≤ kk from Nat.le_trans (defN_le _) (by simp; omega))
      have x0 := (HM.out.below HB.out).cell0 kk hlt
      have x1 := (HM.out.below HB.out).cell1 kk hlt
      generalize hcv : m.getD kk (0, false) = cv at x0 x1
      have HD2 := Aside0.mk (show defN (m.take (kk + 1)) = defN (m.take kk) + (if cv.2 = true then 1 else 0) by rw [HD.out, ← hcv]; rfl)
      clear HD hcv
      obtain ⟨v, on⟩ := cv
      generalize defN (m.take kk) = n at HD2 HL ⊢
      have hw : wrap64 ((n : Int) + 1) = (n : Int) + 1 := by have := HL.out; unfold wrap64; omega
      cases on with
      | false =>
        have HD3 := Aside0.mk (show defN (m.take (kk + 1)) = n from HD2.out)
        go_wp2_with ((with_reducible refine gate_store (t := 91) (p := 5) rfl ?_); refine store_whole rfl rfl 91 _ _ rfl wr.heap.size _ 91 rfl (blk_new _ _) _ rfl rfl rfl (by simp [Value.oneCell']) ?_; intro w2 hb2 hg2; replace HB := Aside0.mk (below_as HB.out hg2); obtain ⟨gc, hq_⟩ : ∃ g_, g_ = wr.heap.size := ⟨_, rfl⟩; rw [← hq_] at hb2; rw [← hq_]; clear hg2 hq_; have cc1 := (blk_cell hb2 1).trans rfl)
        go_roundg (m.length - (kk + 1))
        case measure => omega
        case rel => exact ⟨kk + 1, by omega, by omega, by go_num, by rw [HD3.out], HB⟩
      | true =>
        have HD3 := Aside0.mk (show defN (m.take (kk + 1)) = n + 1 from HD2.out)
        go_wp2_with ((with_reducible refine gate_store (t := 91) (p := 5) rfl ?_); refine store_whole rfl rfl 91 _ _ rfl wr.heap.size _ 91 rfl (blk_new _ _) _ rfl rfl rfl (by simp [Value.oneCell']) ?_; intro w2 hb2 hg2; replace HB := Aside0.mk (below_as HB.out hg2); obtain ⟨gc, hq_⟩ : ∃ g_, g_ = wr.heap.size := ⟨_, rfl⟩; rw [← hq_] at hb2; rw [← hq_]; clear hg2 hq_; have cc1 := (blk_cell hb2 1).trans rfl)
        go_roundg (m.length - (kk + 1))
        case measure => omega
        case rel => exact ⟨kk + 1, by omega, by omega, by go_num, by rw [HD3.out]; first | rfl | (rw [hw]; rfl) | simp [hw], HB⟩
    · have hltz : ¬ (kk : Int) < (m.length : Int) := by omega
      obtain rfl : kk = m.length := by omega
      go_wp2_with fail
      go_ret
      exact ⟨by simp [List.take_length], HB.out⟩
end
/-! ### a sum -/
theorem sum_new : newErr sumL = 0 := by kernel_rfl
theorem sum_ok : flatOk sumL = true := by kernel_rfl
theorem sum_N : cellsN sumL = 2 := by kernel_rfl
def sum0 : List Cl := begunM sumL (List.replicate 2 (0, false))
def sum1 : StepR := stepR sumL 2 sum0 false 0 [1]
def sum2 : StepR := stepR sumL 2 sum1.1 sum1.2.1 sum1.2.2.1 [2]
def sum3 : StepR := stepR sumL 2 sum2.1 sum2.2.1 sum2.2.2.1 [3]
theorem sum_d0 : defN sum0 = 1 := by kernel_rfl
theorem sum_1 : sum1.2.2.2 = ([0], 0) := by kernel_rfl
theorem sum_2 : sum2.2.2.2 = ([1], 0) := by kernel_rfl
theorem sum_3 : sum3.2.2.2 = ([3], 0) := by kernel_rfl
theorem sum_c3 : sum3.2.2.1 = 4 := by kernel_rfl
theorem sum_d3 : defN sum3.1 = 2 := by kernel_rfl
theorem sum_params : (sumL.all (fun f => decide (f.params.length ≤ 8796093022208) && decide (f.results.length ≤ 8796093022208))) = true := by kernel_rfl
end Go.Proofs.YticndoihkfbpoaaGreatDoor
