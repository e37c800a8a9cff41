/- The law's lives: what is read of a sum's text, and what it costs. -/
import Derived.Test.YticndoihkfbpoaaGreatDoorUr
import Derived.Test.YticndoihkfbpoaaGreatDoorXk
import Derived.Laws.Bits64
namespace Go.Proofs.YticndoihkfbpoaaGreatDoor
open Go Go.RowKit Go.Lib Go.Proofs.YticndoihkfbpoaaGreatDoorW.PrintWords Go.Proofs.YticndoihkfbpoaaGreatDoor.PScope
set_option maxRecDepth 100000
set_option linter.unusedSimpArgs false
set_option linter.unusedVariables false
def sumS : ByteArray := ⟨#[102, 117, 110, 32, 40, 32, 120, 48, 32, 41, 32, 61, 32, 40, 32, 120, 49, 32, 41, 32, 99, 101, 108, 108, 115, 32, 50, 32, 102, 108, 97, 103, 115, 32, 123, 32, 49, 32, 59, 32, 125, 32, 112, 97, 114, 116, 115, 32, 123, 32, 125, 32, 123, 32, 120, 49, 32, 61, 32, 40, 32, 105, 102, 32, 109, 32, 91, 32, 49, 32, 93, 32, 116, 104, 101, 110, 32, 48, 32, 101, 108, 115, 101, 32, 109, 32, 91, 32, 48, 32, 93, 32, 41, 32, 59, 32, 120, 50, 32, 61, 32, 40, 32, 120, 49, 32, 43, 32, 120, 48, 32, 41, 32, 59, 32, 109, 32, 91, 32, 49, 32, 93, 32, 61, 32, 48, 32, 59, 32, 109, 32, 91, 32, 48, 32, 93, 32, 61, 32, 120, 50, 32, 59, 32, 125]⟩
def sumL : List FF := match parseP sumS with | .ok l => l | .error _ => []
theorem parse_sum : parseP sumS = .ok sumL := by kernel_rfl
theorem sum_arms : (sumL.all (fun f => f.body.all (fun s => s.arms.isEmpty) && decide (f.body.length ≤ 1000))) = true := by kernel_rfl
theorem sum_len : sumL.length = 1 := by kernel_rfl
theorem small_plain {l : List FS} (h : l.all (fun s => s.arms.isEmpty) = true) (hl : l.length ≤ 1000) : Small l := by
 refine ⟨l, by omega, fun s hs => ?_, fun s hs a ha => ?_⟩
 ·have := List.all_eq_true.1 h s hs
  rw [List.isEmpty_iff] at this
  rw [this]; decide
 ·have := List.all_eq_true.1 h s hs
  rw [List.isEmpty_iff] at this
  rw [this] at ha
  cases ha
theorem sum_small : FlatSmall sumL := by
 have h := sum_arms
 rw [List.all_eq_true] at h
 refine ⟨by rw [sum_len]; decide, fun f hf => ?_, fun f hf => ?_⟩
 ·have := h f hf
  rw [Bool.and_eq_true, decide_eq_true_eq] at this
  exact small_plain this.1 this.2
 ·have := h f hf
  rw [Bool.and_eq_true, decide_eq_true_eq] at this
  omega
theorem parse_sum_calls (s : ByteArray) (hs : s = sumS) (w : World) (hL : LaidR w) :
  Calls Tryz.prog 33 #[.string s] w fun e w' => ∃ (A : Option Addr) (c : Nat), e = .returned (.tuple #[.agg #[.slice A sumL.length c], .agg #[.int .i64 0, .int .i64 0, .int .i64 0]]) ∧ Below w.heap.size w w' ∧ kFF.C w' A sumL.length sumL := by
 subst hs
 refine (parse_calls sumS w (by decide) hL).mono ?_
 intro e w' h
 unfold ParsePost at h
 rw [parse_sum] at h
 obtain ⟨v, er, a, rfl, hb, rfl, rfl, hR⟩ := h
 obtain ⟨A, c, rfl, _, hC⟩ := Kd.R_reads hR
 exact ⟨A, c, rfl, hb, hC⟩
attribute [local irreducible] wpStill
def defN (m : List Cl) : Nat := (m.filter (fun c => c.2)).length
theorem defN_le (m : List Cl) : defN m ≤ m.length := List.length_filter_le _ _
theorem defN_take {m : List Cl} {k : Nat} (h : k < m.length) : defN (m.take (k + 1)) = defN (m.take k) + (if (m.getD k nilC).2 = true then 1 else 0) := by
 unfold defN
 rw [List.take_add_one, List.filter_append, List.length_append, List.getD_eq_getElem?_getD, List.getElem?_eq_getElem h]
 simp only [Option.toList_some, Option.getD_some, List.filter_cons, List.filter_nil]
 split <;> rfl
section
variable {w0 w : World} {g : Nat} {ma : Addr} {A : Option Addr} {c : Nat} {l : List FF} {N : Nat} {m : List Cl} {tr : Bool} {cn : Int}
theorem rcount_calls (h : RAt w0 w g ma A c l N m tr cn) : Calls Tryz.prog 28 #[.pointer (some ⟨g, 0, none⟩)] w fun e w' => e = .returned (.int .i64 cn) ∧ w' = w := by
 have y3 := (blk_cell h.blk 3).trans rfl
 clear h
 go_enter Tryz.func28, Tryz.ntmps28
 go_wp2_with fail
 go_ret
 exact ⟨rfl, rfl⟩
theorem rcells_calls (h : RAt w0 w g ma A c l N m tr cn) : Calls Tryz.prog 31 #[.pointer (some ⟨g, 0, none⟩)] w fun e w' => e = .returned (.int .i64 (N : Int)) ∧ w' = w := by
 have y3 := (blk_cell h.blk 1).trans rfl
 clear h
 go_enter Tryz.func31, Tryz.ntmps31
 go_wp2_with fail
 go_ret
 exact ⟨rfl, rfl⟩
set_option maxHeartbeats 2000000 in
theorem rdefined_calls (h : RAt w0 w g ma A c l N m tr cn) : Calls Tryz.prog 29 #[.pointer (some ⟨g, 0, none⟩)] w fun e w' => e = .returned (.int .i64 (defN m : Int)) ∧ Below w.heap.size w w' := by
 have y1 := (blk_cell h.blk 1).trans rfl
 have HM := Aside0.mk h.mem
 have hN := h.len
 have hF := h.few
 subst hN
 clear h
 go_enter Tryz.func29, Tryz.ntmps29
 go_wp2_with fail
 go_loopg [3, 13] m.length (fun gg s3 s13 wr => ∃ kk : Nat, kk ≤ m.length ∧ m.length - kk ≤ gg ∧ s13 = .int .i64 kk ∧ s3 = .int .i64 (defN (m.take kk) : Int) ∧ Aside0 (Below w.heap.size w wr))
 case atStart => exact ⟨0, Nat.zero_le _, by omega, rfl, rfl, ⟨Below.refl _ _⟩⟩
 case round =>
  obtain ⟨kk, hkk, hgk, rfl, rfl, HB⟩ := hrel
  by_cases hlt : kk < m.length
  ·have hltz : (kk : Int) < (m.length : Int) := by omega
   have HD := Aside0.mk (defN_take hlt)
   have HL := Aside0.mk (show defN (m.take kk) ≤ kk from Nat.le_trans (defN_le _) (by simp; omega))
   have x0 := (HM.out.below HB.out).cell0 kk hlt
   have x1 := (HM.out.below HB.out).cell1 kk hlt
   generalize hcv : m.getD kk (0, false) = cv at x0 x1
   have HD2 := Aside0.mk (show defN (m.take (kk + 1)) = defN (m.take kk) + (if cv.2 = true then 1 else 0) by rw [HD.out, ← hcv]; rfl)
   clear HD hcv
   obtain ⟨v, on⟩ := cv
   generalize defN (m.take kk) = n at HD2 HL ⊢
   have hw : wrap64 ((n : Int) + 1) = (n : Int) + 1 := by have := HL.out; unfold wrap64; omega
   cases on with
   | false =>
    have HD3 := Aside0.mk (show defN (m.take (kk + 1)) = n from HD2.out)
    go_wp2_with ((with_reducible refine gate_store (t := 91) (p := 5) rfl ?_); refine store_whole rfl rfl 91 _ _ rfl wr.heap.size _ 91 rfl (blk_new _ _) _ rfl rfl rfl (by simp [Value.oneCell']) ?_; intro w2 hb2 hg2; replace HB := Aside0.mk (below_as HB.out hg2); obtain ⟨gc, hq_⟩ : ∃ g_, g_ = wr.heap.size := ⟨_, rfl⟩; rw [← hq_] at hb2; rw [← hq_]; clear hg2 hq_; have cc1 := (blk_cell hb2 1).trans rfl)
    go_roundg (m.length - (kk + 1))
    case measure => omega
    case rel => exact ⟨kk + 1, by omega, by omega, by go_num, by rw [HD3.out], HB⟩
   | true =>
    have HD3 := Aside0.mk (show defN (m.take (kk + 1)) = n + 1 from HD2.out)
    go_wp2_with ((with_reducible refine gate_store (t := 91) (p := 5) rfl ?_); refine store_whole rfl rfl 91 _ _ rfl wr.heap.size _ 91 rfl (blk_new _ _) _ rfl rfl rfl (by simp [Value.oneCell']) ?_; intro w2 hb2 hg2; replace HB := Aside0.mk (below_as HB.out hg2); obtain ⟨gc, hq_⟩ : ∃ g_, g_ = wr.heap.size := ⟨_, rfl⟩; rw [← hq_] at hb2; rw [← hq_]; clear hg2 hq_; have cc1 := (blk_cell hb2 1).trans rfl)
    go_roundg (m.length - (kk + 1))
    case measure => omega
    case rel => exact ⟨kk + 1, by omega, by omega, by go_num, by rw [HD3.out]; first | rfl | (rw [hw]; rfl) | simp [hw], HB⟩
  ·have hltz : ¬ (kk : Int) < (m.length : Int) := by omega
   obtain rfl : kk = m.length := by omega
   go_wp2_with fail
   go_ret
   exact ⟨by simp [List.take_length], HB.out⟩
end
theorem sum_new : newErr sumL = 0 := by kernel_rfl
theorem sum_ok : flatOk sumL = true := by kernel_rfl
theorem sum_N : cellsN sumL = 2 := by kernel_rfl
def sum0 : List Cl := begunM sumL (List.replicate 2 (0, false))
def sum1 : StepR := stepR sumL 2 sum0 false 0 [1]
def sum2 : StepR := stepR sumL 2 sum1.1 sum1.2.1 sum1.2.2.1 [2]
def sum3 : StepR := stepR sumL 2 sum2.1 sum2.2.1 sum2.2.2.1 [3]
theorem sum_d0 : defN sum0 = 1 := by kernel_rfl
theorem sum_1 : sum1.2.2.2 = ([0], 0) := by kernel_rfl
theorem sum_2 : sum2.2.2.2 = ([1], 0) := by kernel_rfl
theorem sum_3 : sum3.2.2.2 = ([3], 0) := by kernel_rfl
theorem sum_c3 : sum3.2.2.1 = 4 := by kernel_rfl
theorem sum_d3 : defN sum3.1 = 2 := by kernel_rfl
theorem sum_params : (sumL.all (fun f => decide (f.params.length ≤ 8796093022208) && decide (f.results.length ≤ 8796093022208))) = true := by kernel_rfl
section
variable {w0 w : World} {g : Nat} {ma : Addr} {A : Option Addr} {c : Nat} {l : List FF} {N : Nat} {m : List (Int × Bool)} {tr : Bool} {cn : Int}
set_option maxHeartbeats 2000000 in
theorem rdefR_calls (h : RAtR w0 w g ma A c l N m tr cn) : Calls Tryz.prog 30 #[.pointer (some ⟨g, 0, none⟩)] w fun e w' => e = .returned (.int .i64 (defN m : Int)) ∧ w' = w := by
 have y1 := (blk_cell h.blk 1).trans rfl
 have HM := Aside0.mk h.mem
 have hN := h.len
 have hF := h.few
 subst hN
 clear h
 go_enter Tryz.func30, Tryz.ntmps30
 go_wp2_with fail
 go_loopg [3, 4] m.length (fun gg s3 s4 wr => ∃ kk : Nat, kk ≤ m.length ∧ m.length - kk ≤ gg ∧ s4 = .int .i64 kk ∧ s3 = .int .i64 (defN (m.take kk) : Int) ∧ wr = w)
 case atStart => exact ⟨0, Nat.zero_le _, by omega, rfl, rfl, rfl⟩
 case round =>
  obtain ⟨kk, hkk, hgk, rfl, rfl, rfl⟩ := hrel
  by_cases hlt : kk < m.length
  ·have hltz : (kk : Int) < (m.length : Int) := by omega
   have HD := Aside0.mk (defN_take hlt)
   have HL := Aside0.mk (show defN (m.take kk) ≤ kk from Nat.le_trans (defN_le _) (by simp; omega))
   have x0 := HM.out.cell0 kk hlt
   generalize hcv : m.getD kk (0, false) = cv at x0
   have HD2 := Aside0.mk (show defN (m.take (kk + 1)) = defN (m.take kk) + (if cv.2 = true then 1 else 0) by rw [HD.out, ← hcv]; rfl)
   clear HD hcv
   obtain ⟨v, on⟩ := cv
   generalize defN (m.take kk) = n at HD2 HL ⊢
   have hw : wrap64 ((n : Int) + 1) = (n : Int) + 1 := by have := HL.out; unfold wrap64; omega
   cases on with
   | false =>
    have HD3 := Aside0.mk (show defN (m.take (kk + 1)) = n from HD2.out)
    go_wp2_with fail
    go_roundg (m.length - (kk + 1))
    case measure => omega
    case rel => exact ⟨kk + 1, by omega, by omega, by go_num, by rw [HD3.out], rfl⟩
   | true =>
    have HD3 := Aside0.mk (show defN (m.take (kk + 1)) = n + 1 from HD2.out)
    go_wp2_with fail
    go_roundg (m.length - (kk + 1))
    case measure => omega
    case rel => exact ⟨kk + 1, by omega, by omega, by go_num, by rw [HD3.out]; first | rfl | (rw [hw]; rfl) | simp [hw], rfl⟩
  ·have hltz : ¬ (kk : Int) < (m.length : Int) := by omega
   obtain rfl : kk = m.length := by omega
   go_wp2_with fail
   go_ret
   exact ⟨by simp [List.take_length], rfl⟩
set_option maxHeartbeats 2000000 in
theorem rbeginR_calls (hR : RAtR w0 w g ma A c l N m tr cn) (hok : flatOk l = true) (hm : l.length ≤ 9223372036854775807) (hC : kFF.C w0 A l.length l) (hN : N = cellsN l) :
  Calls Tryz.prog 24 #[.pointer (some ⟨g, 0, none⟩)] w fun e w' => e = .returned (.tuple #[]) ∧ RAtR w0 w' g ma A c l N (begunM l m) false 0 ∧ Turned (fun b => b = g ∨ b = ma.block) w w' := by
 have hpos := flat_pos hok
 have hfo := FunOk.of (funOk hok (k := l.length - 1) (by omega))
 obtain ⟨v, hv⟩ : ∃ v : Int, ((l.length - 1 : Nat) : Int) = v := ⟨_, rfl⟩
 have hv0 : 0 ≤ v := by omega
 have hv1 : v < (l.length : Int) := by omega
 have hw1 : wrap64 ((l.length : Int) - 1) = v := by unfold wrap64; omega
 have HVV := Aside0.mk (show anewF l l.length v 0 m = begunM l m by unfold begunM; rw [hv])
 have han := ranew_calls l hok hm w0 g ma A c N tr cn hC l.length v 0 m w hR hv0 hv1 hv1
 have HCD := Aside0.mk (show 0 ≤ (0 : Int) ∧ (0 : Int) ≤ (N : Int) ∧ (l.getD v.toNat zFF).cells ≤ (N : Int) - 0 by
  have h1 := hfo.c0
  rw [hN]
  unfold cellsN
  rw [show v.toNat = l.length - 1 by omega]
  omega)
 have x0 := (blk_cell hR.blk 0).trans rfl
 clear hpos hfo hv hv0 hv1 hR hok hm hC hN
 go_enter Tryz.func24, Tryz.ntmps24
 go_wp2_with fail
 refine han.mono ?_
 rintro e w1 ⟨hp, _, ht⟩
 obtain ⟨rfl, hR1⟩ := hp HCD.out
 rw [HVV.out] at hR1
 have HR2 := Aside0.mk ((hR1.trap false).countS 0)
 have HT := Aside0.mk (((ht.mono (T := fun b => b = g ∨ b = ma.block) (fun k _ hk => .inr hk)).set (p := ⟨g, 2, none⟩) (.inl rfl) (.bool false)).set (p := ⟨g, 3, none⟩) (.inl rfl) (.int .i64 0))
 have x2 := (blk_cell hR1.blk 2).trans rfl
 have f2 := blk_frozen hR1.blk 2
 have x3 := (blk_cell (hR1.trap false).blk 3).trans rfl
 have f3 := blk_frozen (hR1.trap false).blk 3
 clear hp ht hR1 han x0 HCD HVV
 go_wp2_with fail
 go_end0
 exact ⟨rfl, HR2.out, HT.out⟩
end
def addV (base at_ : Int) : Int := if base < 0 ∨ at_ < 0 ∨ at_ > 2000 then -1 else wrap64 (base + at_)
theorem add_calls (a b : Int) (w : World) : Calls Tryz.prog 116 #[.int .i64 a, .int .i64 b] w fun e w' => e = .returned (.int .i64 (addV a b)) ∧ w' = w := by
 by_cases h0 : a < 0
 ·have d0 : decide (a < 0) = true := decide_eq_true h0
  rw [show addV a b = -1 from if_pos (.inl h0)]
  clear h0
  go_enter Tryz.func116, Tryz.ntmps116
  go_wp2_with fail
  go_ret
  exact ⟨rfl, rfl⟩
 ·have d0 : decide (a < 0) = false := decide_eq_false h0
  by_cases h1 : b < 0
  ·have d1 : decide (b < 0) = true := decide_eq_true h1
   rw [show addV a b = -1 from if_pos (.inr (.inl h1))]
   clear h0 h1
   go_enter Tryz.func116, Tryz.ntmps116
   go_wp2_with fail
   go_ret
   exact ⟨rfl, rfl⟩
  ·have d1 : decide (b < 0) = false := decide_eq_false h1
   by_cases h2 : b > 2000
   ·have d2 : decide (b > 2000) = true := decide_eq_true h2
    rw [show addV a b = -1 from if_pos (.inr (.inr h2))]
    clear h0 h1 h2
    go_enter Tryz.func116, Tryz.ntmps116
    go_wp2_with fail
    go_ret
    exact ⟨rfl, rfl⟩
   ·have d2 : decide (b > 2000) = false := decide_eq_false h2
    rw [show addV a b = wrap64 (a + b) from if_neg (by omega)]
    clear h0 h1 h2
    go_enter Tryz.func116, Tryz.ntmps116
    go_wp2_with fail
    go_ret
    exact ⟨rfl, rfl⟩
def InR (a : Int) : Prop := -9223372036854775808 ≤ a ∧ a < 9223372036854775808
theorem not_nat (x : Nat) (h : x < 18446744073709551616) : 18446744073709551615 ^^^ x = 18446744073709551615 - x := by
 rw [show 18446744073709551615 - x = 2 ^ 64 - (x + 1) by omega, show (18446744073709551615 : Nat) = 2 ^ 64 - 1 by decide]
 apply Nat.eq_of_testBit_eq
 intro i
 rw [Nat.testBit_xor, Nat.testBit_two_pow_sub_one, Nat.testBit_two_pow_sub_succ (by omega)]
 by_cases hi : i < 64
 ·simp [hi]
 ·rw [Nat.testBit_lt_two_pow (Nat.lt_of_lt_of_le (show x < 2 ^ 64 by omega) (Nat.pow_le_pow_right (by decide) (by omega)))]
  simp [hi]
theorem top_nat (x : Nat) (h : x < 9223372036854775808) : x ^^^ 9223372036854775808 = x + 9223372036854775808 := by
 have h1 := Nat.two_pow_add_eq_or_of_lt (i := 63) (b := x) (by omega) 1
 rw [show x + 9223372036854775808 = 2 ^ 63 * 1 + x by omega, h1, show (9223372036854775808 : Nat) = 2 ^ 63 by decide, Nat.mul_one]
 apply Nat.eq_of_testBit_eq
 intro i
 rw [Nat.testBit_xor, Nat.testBit_or, Nat.testBit_two_pow]
 by_cases hi : 63 = i
 ·subst hi
  rw [Nat.testBit_lt_two_pow (show x < 2 ^ 63 by omega)]
  simp
 ·simp [hi]
theorem top_nat2 (x : Nat) (h : 9223372036854775808 ≤ x) (h2 : x < 18446744073709551616) : x ^^^ 9223372036854775808 = x - 9223372036854775808 := by
 have h1 := top_nat (x - 9223372036854775808) (by omega)
 rw [Nat.sub_add_cancel h] at h1
 rw [← h1, Nat.xor_assoc, Nat.xor_self, Nat.xor_zero, h1]
theorem u64_eq (x : Int) : IntKind.u64.wrap x = x % 18446744073709551616 := by
 unfold IntKind.wrap
 simp [IntKind.signed, IntKind.bits]
theorem truth4_calls (b : Bool) (w : World) : Calls Tryz.prog 170 #[.bool b] w fun e w' => e = .returned (.int .i64 (truV b)) ∧ w' = w := by
 cases b
 ·show Calls _ _ _ _ fun e w' => e = .returned (.int .i64 0) ∧ w' = w
  go_enter Tryz.func170, Tryz.ntmps170
  go_wp2_with fail
  go_ret
  exact ⟨rfl, rfl⟩
 ·show Calls _ _ _ _ fun e w' => e = .returned (.int .i64 1) ∧ w' = w
  go_enter Tryz.func170, Tryz.ntmps170
  go_wp2_with fail
  go_ret
  exact ⟨rfl, rfl⟩
def sizeRaw (a : Int) : Int := if a < 0 then IntKind.u64.wrap (bits BinOp.xor .u64 IntKind.u64.max (IntKind.u64.wrap a) + 1) else IntKind.u64.wrap a
theorem size_calls (a : Int) (w : World) : Calls Tryz.prog 173 #[.int .i64 a] w fun e w' => e = .returned (.int .u64 (sizeRaw a)) ∧ w' = w := by
 by_cases h : a < 0
 ·have d : decide (a < 0) = true := decide_eq_true h
  unfold sizeRaw
  rw [if_pos h]
  clear h
  go_enter Tryz.func173, Tryz.ntmps173
  go_wp2_with fail
  go_ret
  exact ⟨rfl, rfl⟩
 ·have d : decide (a < 0) = false := decide_eq_false h
  unfold sizeRaw
  rw [if_neg h]
  clear h
  go_enter Tryz.func173, Tryz.ntmps173
  go_wp2_with fail
  go_ret
  exact ⟨rfl, rfl⟩
def signedRaw (n : Int) (s : Bool) : Int := if s then wrap64 (IntKind.u64.wrap (bits BinOp.xor .u64 IntKind.u64.max n + 1)) else wrap64 n
theorem signed_calls (n : Int) (s : Bool) (w : World) : Calls Tryz.prog 169 #[.int .u64 n, .bool s] w fun e w' => e = .returned (.int .i64 (signedRaw n s)) ∧ w' = w := by
 cases s
 ·unfold signedRaw
  rw [if_neg Bool.false_ne_true]
  go_enter Tryz.func169, Tryz.ntmps169
  go_wp2_with fail
  go_ret
  exact ⟨rfl, rfl⟩
 ·unfold signedRaw
  rw [if_pos rfl]
  go_enter Tryz.func169, Tryz.ntmps169
  go_wp2_with fail
  go_ret
  exact ⟨rfl, rfl⟩
theorem least_calls (a b : Int) (w : World) : Calls Tryz.prog 172 #[.int .i64 a, .int .i64 b] w fun e w' => e = .returned (.bool ((IntKind.u64.wrap a == 9223372036854775808) && (b == -1))) ∧ w' = w := by
 cases h1 : (IntKind.u64.wrap a == (9223372036854775808 : Int)) with
 | false =>
  rw [Bool.false_and]
  go_enter Tryz.func172, Tryz.ntmps172
  go_wp2_with fail
  go_ret
  exact ⟨rfl, rfl⟩
 | true =>
  rw [Bool.true_and]
  go_enter Tryz.func172, Tryz.ntmps172
  go_wp2_with fail
  go_ret
  exact ⟨rfl, rfl⟩
theorem not_u64 (n : Int) (h0 : 0 ≤ n) (h1 : n < 18446744073709551616) : bits BinOp.xor .u64 IntKind.u64.max n = 18446744073709551615 - n := by
 have h := u64_xor_nat 18446744073709551615 n.toNat (by decide) (by omega)
 rw [not_nat _ (by omega)] at h
 rw [show ((n.toNat : Nat) : Int) = n by omega] at h
 refine h.trans ?_
 omega
theorem top_u64 (n : Int) (h0 : 0 ≤ n) (h1 : n < 18446744073709551616) : bits BinOp.xor .u64 n 9223372036854775808 = (if n < 9223372036854775808 then n + 9223372036854775808 else n - 9223372036854775808) := by
 have h := u64_xor_nat n.toNat 9223372036854775808 (by omega) (by decide)
 rw [show ((n.toNat : Nat) : Int) = n by omega] at h
 refine h.trans ?_
 split
 ·rw [top_nat _ (by omega)]; omega
 ·rw [top_nat2 _ (by omega) (by omega)]; omega
theorem size_eq {a : Int} (h : InR a) : sizeRaw a = (a.natAbs : Int) := by
 obtain ⟨h0, h1⟩ := h
 unfold sizeRaw
 split
 ·rw [not_u64 _ (by rw [u64_eq]; omega) (by rw [u64_eq]; omega), u64_eq, u64_eq]; omega
 ·rw [u64_eq]; omega
theorem signed_eq {n : Int} (h0 : 0 ≤ n) (h1 : n < 18446744073709551616) (s : Bool) : signedRaw n s = wrap64 (if s then -n else n) := by
 unfold signedRaw
 cases s
 ·rfl
 ·rw [if_pos rfl, if_pos rfl, not_u64 n h0 h1, u64_eq]
  unfold wrap64
  omega
theorem emod_double (y m : Int) (hm : 0 < m) : y % (2 * m) = y % m + m * ((y / m) % 2) := by
 have h1 := Int.emod_add_mul_ediv y m
 have h2 := Int.emod_add_mul_ediv (y / m) 2
 have h3 := Int.emod_nonneg y (show m ≠ 0 by omega)
 have h4 := Int.emod_lt_of_pos y hm
 have e : y = (y % m + m * ((y / m) % 2)) + 2 * m * ((y / m) / 2) := by
  have : m * (y / m) = m * ((y / m) % 2) + 2 * m * ((y / m) / 2) := by
   conv => lhs; rw [← h2]
   rw [Int.mul_add, ← Int.mul_assoc, Int.mul_comm m 2]
  omega
 have h5 : (y / m) % 2 = 0 ∨ (y / m) % 2 = 1 := Int.emod_two_eq _
 conv => lhs; rw [e]
 rw [Int.add_mul_emod_self_left]
 rcases h5 with h5 | h5
 ·rw [h5, Int.mul_zero, Int.add_zero]
  exact Int.emod_eq_of_lt h3 (by omega)
 ·rw [h5, Int.mul_one]
  exact Int.emod_eq_of_lt (by omega) (by omega)
def prodV (x y : Int) (i : Nat) : Int := x * (y % 2 ^ i) % 18446744073709551616
theorem pow_pos2 (i : Nat) : (0 : Int) < 2 ^ i := Int.pow_pos (by decide)
theorem prod_step0 {x y : Int} {i : Nat} (hy : 0 ≤ y) (h : ((y / 2 ^ i).tmod 2 == 1) = false) : prodV x y (i + 1) = prodV x y i := by
 have hq : 0 ≤ y / 2 ^ i := Int.ediv_nonneg hy (Int.le_of_lt (pow_pos2 i))
 rw [Int.tmod_eq_emod_of_nonneg hq] at h
 have h0 : (y / 2 ^ i) % 2 = 0 := by
  rcases Int.emod_two_eq (y / 2 ^ i) with e | e
  ·exact e
  ·rw [e] at h; cases h
 unfold prodV
 rw [Int.pow_succ, Int.mul_comm _ 2, emod_double y _ (pow_pos2 i), h0, Int.mul_zero, Int.add_zero]
theorem prod_step1 {x y : Int} {i : Nat} (hy : 0 ≤ y) (h : ((y / 2 ^ i).tmod 2 == 1) = true) : prodV x y (i + 1) = IntKind.u64.wrap (prodV x y i + IntKind.u64.wrap (x * 2 ^ i)) := by
 have hq : 0 ≤ y / 2 ^ i := Int.ediv_nonneg hy (Int.le_of_lt (pow_pos2 i))
 rw [Int.tmod_eq_emod_of_nonneg hq, beq_iff_eq] at h
 unfold prodV
 rw [Int.pow_succ, Int.mul_comm _ 2, emod_double y _ (pow_pos2 i), h, Int.mul_one, u64_eq, u64_eq, Int.mul_add]
 omega
theorem prod_end {x y : Int} (h0 : 0 ≤ y) (h1 : y < 18446744073709551616) : prodV x y 64 = x * y % 18446744073709551616 := by
 unfold prodV
 rw [Int.emod_eq_of_lt h0 (by simpa using h1)]
set_option maxHeartbeats 2000000 in
theorem product_calls (x y : Int) (hx0 : 0 ≤ x) (hx1 : x < 18446744073709551616) (hy0 : 0 ≤ y) (hy1 : y < 18446744073709551616) (w : World) : Calls Tryz.prog 171 #[.int .u64 x, .int .u64 y] w fun e w' => e = .returned (.int .u64 (x * y % 18446744073709551616)) ∧ w' = w := by
 have HX := Aside0.mk (And.intro hx0 (And.intro hx1 (And.intro hy0 hy1)))
 clear hx0 hx1 hy0 hy1
 have HP0 := Aside0.mk (show prodV x y 0 = 0 by unfold prodV; simp)
 go_enter Tryz.func171, Tryz.ntmps171
 go_wp2_with fail
 go_loopg [5, 6] 64 (fun gg s5 s6 wr => ∃ i : Nat, i ≤ 64 ∧ 64 - i ≤ gg ∧ s6 = .int .i64 i ∧ s5 = .int .u64 (prodV x y i) ∧ wr = w)
 case atStart => exact ⟨0, by omega, by omega, rfl, by rw [HP0.out], rfl⟩
 case round =>
  obtain ⟨i, hi, hg, rfl, rfl, rfl⟩ := hrel
  by_cases hlt : i < 64
  ·have hltz : (i : Int) < 64 := by omega
   have hu : IntKind.u64.wrap (i : Int) = (i : Int) := by rw [u64_eq]; omega
   have HY := Aside0.mk HX.out.2.2.1
   cases hb : ((y / 2 ^ i).tmod 2 == 1) with
   | false =>
    have HS := Aside0.mk (prod_step0 (x := x) HY.out hb)
    generalize prodV x y i = p at HS ⊢
    go_wp2_with fail
    go_roundg (64 - (i + 1))
    case measure => omega
    case rel => exact ⟨i + 1, by omega, by omega, by go_num, by rw [HS.out], rfl⟩
   | true =>
    have HS := Aside0.mk (prod_step1 (x := x) HY.out hb)
    generalize prodV x y i = p at HS ⊢
    go_wp2_with fail
    go_roundg (64 - (i + 1))
    case measure => omega
    case rel => exact ⟨i + 1, by omega, by omega, by go_num, by rw [HS.out], rfl⟩
  ·have hltz : ¬ (i : Int) < 64 := by omega
   obtain rfl : i = 64 := by omega
   have HE := Aside0.mk (prod_end (x := x) HX.out.2.2.1 HX.out.2.2.2)
   generalize prodV x y 64 = p at HE ⊢
   go_wp2_with fail
   go_ret
   exact ⟨by rw [← HE.out]; rfl, rfl⟩
end Go.Proofs.YticndoihkfbpoaaGreatDoor
