/- The reference's words: Un, Bin. -/
import Derived.Test.YticndoihkfbpoaaGreatDoorYb
namespace Go.Proofs.YticndoihkfbpoaaGreatDoor
open Go Go.RowKit Go.Lib Go.Proofs.YticndoihkfbpoaaGreatDoorW.PrintWords Go.Proofs.YticndoihkfbpoaaGreatDoor.PScope
set_option maxRecDepth 100000
set_option linter.unusedSimpArgs false
set_option linter.unusedVariables false
theorem signed_neg (a : Int) : signedRaw (IntKind.u64.wrap a) true = wrap64 (-a) := by
 rw [signed_eq (by rw [u64_eq]; omega) (by rw [u64_eq]; omega), if_pos rfl, u64_eq]
 unfold wrap64
 omega
theorem un4_calls (s : ByteArray) (a : Int) (w : World) : Calls Tryz.prog 143 #[.string s, .int .i64 a] w fun e w' => e = .returned (.tuple #[.int .i64 (unV s a).1, .int .i64 (unV s a).2]) ∧ w' = w := by
 cases h1 : (s.toList == ([45] : List UInt8)) with
 | true =>
  have hv : unV s a = (wrap64 (-a), 0) := by unfold unV; rw [h1]; rfl
  have hs := signed_calls (IntKind.u64.wrap a) true w
  rw [hv]
  rw [signed_neg] at hs
  clear hv
  go_enter Tryz.func143, Tryz.ntmps143
  go_wp2_with fail
  refine hs.mono ?_
  rintro e w1 ⟨rfl, rfl⟩
  go_wp2_with fail
  go_ret2
  exact ⟨rfl, rfl⟩
 | false =>
  cases h2 : (s.toList == ([110, 111, 116] : List UInt8)) with
  | true =>
   have hv : unV s a = (truV (a == 0), 0) := by unfold unV; rw [h1, h2]; rfl
   have ht := truth4_calls (a == 0) w
   rw [hv]
   clear hv
   go_enter Tryz.func143, Tryz.ntmps143
   go_wp2_with fail
   refine ht.mono ?_
   rintro e w1 ⟨rfl, rfl⟩
   go_wp2_with fail
   go_ret2
   exact ⟨rfl, rfl⟩
  | false =>
   have hv : unV s a = (0, 10) := by unfold unV; rw [h1, h2]; rfl
   rw [hv]
   clear hv
   go_enter Tryz.func143, Tryz.ntmps143
   go_wp2_with fail
   go_ret2
   exact ⟨rfl, rfl⟩
theorem wrap_u64 (x : Int) : wrap64 (IntKind.u64.wrap x) = wrap64 x := by rw [u64_eq]; unfold wrap64; omega
theorem add_raw (a b : Int) : wrap64 (IntKind.u64.wrap (IntKind.u64.wrap a + IntKind.u64.wrap b)) = wrap64 (a + b) := by rw [wrap_u64, u64_eq, u64_eq]; unfold wrap64; omega
theorem sub_raw (a b : Int) : wrap64 (IntKind.u64.wrap (IntKind.u64.wrap a - IntKind.u64.wrap b)) = wrap64 (a - b) := by rw [wrap_u64, u64_eq, u64_eq]; unfold wrap64; omega
theorem mul_raw (a b : Int) : wrap64 (IntKind.u64.wrap a * IntKind.u64.wrap b % 18446744073709551616) = wrap64 (a * b) := by
 rw [u64_eq, u64_eq, ← Int.mul_emod]
 unfold wrap64
 omega
theorem u64_in (a : Int) : 0 ≤ IntKind.u64.wrap a ∧ IntKind.u64.wrap a < 18446744073709551616 := by rw [u64_eq]; omega
theorem xor_zero {a b : Int} (ha : InR a) (hb : InR b) : (bits BinOp.xor .u64 (IntKind.u64.wrap a) (IntKind.u64.wrap b) == 0) = (a == b) := by
 obtain ⟨a0, a1⟩ := ha
 obtain ⟨b0, b1⟩ := hb
 obtain ⟨p0, p1⟩ := u64_in a
 obtain ⟨q0, q1⟩ := u64_in b
 have h := bits_xor_u64_nat (IntKind.u64.wrap a).toNat (IntKind.u64.wrap b).toNat (by omega) (by omega)
 rw [show (((IntKind.u64.wrap a).toNat : Nat) : Int) = IntKind.u64.wrap a by omega, show (((IntKind.u64.wrap b).toNat : Nat) : Int) = IntKind.u64.wrap b by omega] at h
 rw [h]
 rw [Bool.eq_iff_iff, beq_iff_eq, beq_iff_eq]
 constructor
 ·intro e
  have e2 : (IntKind.u64.wrap a).toNat ^^^ (IntKind.u64.wrap b).toNat = 0 := by omega
  have e3 : (IntKind.u64.wrap a).toNat = (IntKind.u64.wrap b).toNat := by
   have h1 : ((IntKind.u64.wrap a).toNat ^^^ (IntKind.u64.wrap b).toNat) ^^^ (IntKind.u64.wrap b).toNat = (IntKind.u64.wrap a).toNat := by rw [Nat.xor_assoc, Nat.xor_self, Nat.xor_zero]
   rw [← h1, e2, Nat.zero_xor]
  rw [u64_eq, u64_eq] at e3
  omega
 ·rintro rfl
  rw [Nat.xor_self]; rfl
theorem top_lt {a b : Int} (ha : InR a) (hb : InR b) : decide (bits BinOp.xor .u64 (IntKind.u64.wrap a) 9223372036854775808 < bits BinOp.xor .u64 (IntKind.u64.wrap b) 9223372036854775808) = decide (a < b) := by
 obtain ⟨a0, a1⟩ := ha
 obtain ⟨b0, b1⟩ := hb
 rw [top_u64 _ (u64_in a).1 (u64_in a).2, top_u64 _ (u64_in b).1 (u64_in b).2, u64_eq, u64_eq, decide_eq_decide]
 split <;> split <;> omega
theorem top_le {a b : Int} (ha : InR a) (hb : InR b) : decide (bits BinOp.xor .u64 (IntKind.u64.wrap a) 9223372036854775808 ≤ bits BinOp.xor .u64 (IntKind.u64.wrap b) 9223372036854775808) = decide (a ≤ b) := by
 obtain ⟨a0, a1⟩ := ha
 obtain ⟨b0, b1⟩ := hb
 rw [top_u64 _ (u64_in a).1 (u64_in a).2, top_u64 _ (u64_in b).1 (u64_in b).2, u64_eq, u64_eq, decide_eq_decide]
 split <;> split <;> omega
theorem wrapE (x : Int) : IntKind.i64.wrap x = wrap64 x := by
 rw [IntKind.wrap_i64]
 unfold wrap64
 rfl
theorem arithV_4 (a b : Int) : arithV 191 a b = (if divB a b then wrap64 (a.tdiv b) else 0) := rfl
theorem arithV_5 (a b : Int) : arithV 193 a b = (if divB a b then a.tmod b else 0) := rfl
theorem or_zero {a b : Int} (ha : InR a) (hb : InR b) : (bor64 a b != 0) = ((a != 0) || (b != 0)) := by
 obtain ⟨a0, a1⟩ := ha
 obtain ⟨b0, b1⟩ := hb
 unfold bor64
 rw [wrapE, BitVec.toNat_or]
 have hx : ((BitVec.ofInt 64 a).toNat : Int) = a % 18446744073709551616 := by rw [BitVec.toNat_ofInt]; omega
 have hy : ((BitVec.ofInt 64 b).toNat : Int) = b % 18446744073709551616 := by rw [BitVec.toNat_ofInt]; omega
 have hlt : (BitVec.ofInt 64 a).toNat ||| (BitVec.ofInt 64 b).toNat < 2 ^ 64 := Nat.or_lt_two_pow (by omega) (by omega)
 have l1 := @Nat.left_le_or (BitVec.ofInt 64 a).toNat (BitVec.ofInt 64 b).toNat
 have l2 := @Nat.right_le_or (BitVec.ofInt 64 a).toNat (BitVec.ofInt 64 b).toNat
 by_cases h : a = 0 ∧ b = 0
 ·obtain ⟨rfl, rfl⟩ := h
  clear hx hy hlt l1 l2 a0 a1 b0 b1
  decide +kernel
 ·have hr : ((a != 0) || (b != 0)) = true := by
   rw [Bool.or_eq_true, bne_iff_ne, bne_iff_ne]
   by_cases h2 : a = 0
   ·exact .inr (fun e => h ⟨h2, e⟩)
   ·exact .inl h2
  rw [hr, bne_iff_ne]
  generalize (BitVec.ofInt 64 a).toNat ||| (BitVec.ofInt 64 b).toNat = n at hlt l1 l2 ⊢
  intro e
  have hn : (n : Int) = 0 := by unfold wrap64 at e; omega
  exact h ⟨by omega, by omega⟩
theorem divB_zero (a : Int) : divB a 0 = false := rfl
theorem divB_least {a b : Int} (ha : InR a) (h : ((IntKind.u64.wrap a == 9223372036854775808) && (b == -1)) = true) : divB a b = false := by
 obtain ⟨a0, a1⟩ := ha
 rw [Bool.and_eq_true, beq_iff_eq, beq_iff_eq, u64_eq] at h
 obtain ⟨h1, rfl⟩ := h
 have : a = -9223372036854775808 := by omega
 subst this
 clear h1 a0 a1
 decide +kernel
theorem divB_rest {a b : Int} (ha : InR a) (h0 : b ≠ 0) (h : ((IntKind.u64.wrap a == 9223372036854775808) && (b == -1)) = false) : divB a b = true ∨ (b = -1 ∧ a = 0) := by
 obtain ⟨a0, a1⟩ := ha
 unfold divB
 rw [u64_eq] at h
 by_cases hb : b = -1
 ·subst hb
  by_cases h2 : a = 0
  ·exact .inr ⟨rfl, h2⟩
  ·left
   have h3 : ¬ a % 18446744073709551616 = 9223372036854775808 := fun e => by rw [e] at h; cases h
   have h4 : a ≠ wrap64 (-a) := by unfold wrap64; omega
   rw [show (a != wrap64 (-a)) = true from bne_iff_ne.2 h4]; rfl
 ·left
  rw [bne_iff_ne.2 h0, bne_iff_ne.2 hb]; rfl
theorem tdiv_sign (a b : Int) : a.tdiv b = if (!(decide (a < 0) == decide (b < 0))) = true then -((a.natAbs : Int).tdiv (b.natAbs : Int)) else (a.natAbs : Int).tdiv (b.natAbs : Int) := by
 by_cases ha : a < 0
 ·obtain ⟨p, rfl⟩ : ∃ p : Nat, a = -(p : Int) := ⟨a.natAbs, by omega⟩
  rw [decide_eq_true ha, Int.natAbs_neg, Int.natAbs_natCast, Int.neg_tdiv]
  by_cases hb : b < 0
  ·obtain ⟨q, rfl⟩ : ∃ q : Nat, b = -(q : Int) := ⟨b.natAbs, by omega⟩
   rw [decide_eq_true hb, Int.natAbs_neg, Int.natAbs_natCast, Int.tdiv_neg, Int.neg_neg]
   rfl
  ·obtain ⟨q, rfl⟩ : ∃ q : Nat, b = (q : Int) := ⟨b.natAbs, by omega⟩
   rw [decide_eq_false hb, Int.natAbs_natCast]
   rfl
 ·obtain ⟨p, rfl⟩ : ∃ p : Nat, a = (p : Int) := ⟨a.natAbs, by omega⟩
  rw [decide_eq_false ha, Int.natAbs_natCast]
  by_cases hb : b < 0
  ·obtain ⟨q, rfl⟩ : ∃ q : Nat, b = -(q : Int) := ⟨b.natAbs, by omega⟩
   rw [decide_eq_true hb, Int.natAbs_neg, Int.natAbs_natCast, Int.tdiv_neg]
   rfl
  ·obtain ⟨q, rfl⟩ : ∃ q : Nat, b = (q : Int) := ⟨b.natAbs, by omega⟩
   rw [decide_eq_false hb, Int.natAbs_natCast]
   rfl
theorem tmod_sign (a b : Int) : a.tmod b = if (decide (a < 0)) = true then -((a.natAbs : Int).tmod (b.natAbs : Int)) else (a.natAbs : Int).tmod (b.natAbs : Int) := by
 by_cases ha : a < 0
 ·obtain ⟨p, rfl⟩ : ∃ p : Nat, a = -(p : Int) := ⟨a.natAbs, by omega⟩
  rw [decide_eq_true ha, Int.natAbs_neg, Int.natAbs_natCast, Int.neg_tmod, if_pos rfl]
  by_cases hb : b < 0
  ·obtain ⟨q, rfl⟩ : ∃ q : Nat, b = -(q : Int) := ⟨b.natAbs, by omega⟩
   rw [Int.natAbs_neg, Int.natAbs_natCast, Int.tmod_neg]
  ·obtain ⟨q, rfl⟩ : ∃ q : Nat, b = (q : Int) := ⟨b.natAbs, by omega⟩
   rw [Int.natAbs_natCast]
 ·obtain ⟨p, rfl⟩ : ∃ p : Nat, a = (p : Int) := ⟨a.natAbs, by omega⟩
  rw [decide_eq_false ha, Int.natAbs_natCast, if_neg Bool.false_ne_true]
  by_cases hb : b < 0
  ·obtain ⟨q, rfl⟩ : ∃ q : Nat, b = -(q : Int) := ⟨b.natAbs, by omega⟩
   rw [Int.natAbs_neg, Int.natAbs_natCast, Int.tmod_neg]
  ·obtain ⟨q, rfl⟩ : ∃ q : Nat, b = (q : Int) := ⟨b.natAbs, by omega⟩
   rw [Int.natAbs_natCast]
theorem quo_nat (a b : Int) (ha : InR a) : 0 ≤ (a.natAbs : Int).tdiv (b.natAbs : Int) ∧ (a.natAbs : Int).tdiv (b.natAbs : Int) ≤ 9223372036854775808 := by
 obtain ⟨a0, a1⟩ := ha
 rw [show ((a.natAbs : Int).tdiv (b.natAbs : Int)) = ((a.natAbs / b.natAbs : Nat) : Int) from (Int.ofNat_tdiv _ _).symm]
 have := Nat.div_le_self a.natAbs b.natAbs
 generalize a.natAbs / b.natAbs = d at this ⊢
 omega
theorem rem_nat (a b : Int) (ha : InR a) : 0 ≤ (a.natAbs : Int).tmod (b.natAbs : Int) ∧ (a.natAbs : Int).tmod (b.natAbs : Int) ≤ 9223372036854775808 := by
 obtain ⟨a0, a1⟩ := ha
 rw [show ((a.natAbs : Int).tmod (b.natAbs : Int)) = ((a.natAbs % b.natAbs : Nat) : Int) from (Int.ofNat_tmod _ _).symm]
 have := Nat.mod_le a.natAbs b.natAbs
 generalize a.natAbs % b.natAbs = d at this ⊢
 omega
theorem quo_raw {a b : Int} (ha : InR a) (h0 : b ≠ 0) (h : ((IntKind.u64.wrap a == 9223372036854775808) && (b == -1)) = false) : arithV 191 a b = signedRaw (IntKind.u64.wrap ((a.natAbs : Int).tdiv (b.natAbs : Int))) (!(decide (a < 0) == decide (b < 0))) := by
 have hn := quo_nat a b ha
 rw [arithV_4, signed_eq (u64_in _).1 (u64_in _).2, show IntKind.u64.wrap ((a.natAbs : Int).tdiv (b.natAbs : Int)) = (a.natAbs : Int).tdiv (b.natAbs : Int) by rw [u64_eq]; omega, ← tdiv_sign]
 rcases divB_rest ha h0 h with e | ⟨rfl, rfl⟩
 ·rw [e, if_pos rfl]
 ·decide +kernel
theorem rem_raw {a b : Int} (ha : InR a) (h0 : b ≠ 0) (h : ((IntKind.u64.wrap a == 9223372036854775808) && (b == -1)) = false) : arithV 193 a b = signedRaw ((a.natAbs : Int) % (b.natAbs : Int)) (decide (a < 0)) := by
 have hn := rem_nat a b ha
 rw [← Int.tmod_eq_emod_of_nonneg (show 0 ≤ (a.natAbs : Int) by omega)]
 rw [arithV_5, signed_eq hn.1 (by omega), ← tmod_sign]
 rcases divB_rest ha h0 h with e | ⟨rfl, rfl⟩
 ·rw [e, if_pos rfl]
  have h2 : a.tmod b = if (decide (a < 0)) = true then -((a.natAbs : Int).tmod (b.natAbs : Int)) else (a.natAbs : Int).tmod (b.natAbs : Int) := tmod_sign a b
  have h3 : (a.natAbs : Int).tmod (b.natAbs : Int) ≤ (a.natAbs : Int) := by
   rw [show ((a.natAbs : Int).tmod (b.natAbs : Int)) = ((a.natAbs % b.natAbs : Nat) : Int) from (Int.ofNat_tmod _ _).symm]
   have := Nat.mod_le a.natAbs b.natAbs
   omega
  obtain ⟨a0, a1⟩ := ha
  have h4 : -9223372036854775808 ≤ a.tmod b ∧ a.tmod b < 9223372036854775808 := by
   rw [h2]
   by_cases e2 : a < 0
   ·rw [decide_eq_true e2, if_pos rfl]; omega
   ·rw [decide_eq_false e2, if_neg Bool.false_ne_true]; omega
  generalize a.tmod b = r at h4 ⊢
  unfold wrap64
  omega
 ·decide +kernel
theorem binV_1 (a b : Int) : binV (⟨#[43]⟩ : ByteArray) a b = (arithV 188 a b, 0) := by rw [binV_some (n := 188) (by rfl)]; rfl
theorem binV_2 (a b : Int) : binV (⟨#[45]⟩ : ByteArray) a b = (arithV 189 a b, 0) := by rw [binV_some (n := 189) (by rfl)]; rfl
theorem binV_3 (a b : Int) : binV (⟨#[42]⟩ : ByteArray) a b = (arithV 190 a b, 0) := by rw [binV_some (n := 190) (by rfl)]; rfl
theorem binV_4 (a b : Int) : binV (⟨#[47]⟩ : ByteArray) a b = (arithV 191 a b, 0) := by rw [binV_some (n := 191) (by rfl)]; rfl
theorem binV_5 (a b : Int) : binV (⟨#[37]⟩ : ByteArray) a b = (arithV 193 a b, 0) := by rw [binV_some (n := 193) (by rfl)]; rfl
theorem binV_6 (a b : Int) : binV (⟨#[60]⟩ : ByteArray) a b = (truV (cmpV 195 a b), 0) := by rw [binV_some (n := 195) (by rfl)]; rfl
theorem binV_7 (a b : Int) : binV (⟨#[60, 61]⟩ : ByteArray) a b = (truV (cmpV 196 a b), 0) := by rw [binV_some (n := 196) (by rfl)]; rfl
theorem binV_8 (a b : Int) : binV (⟨#[61]⟩ : ByteArray) a b = (truV (cmpV 197 a b), 0) := by rw [binV_some (n := 197) (by rfl)]; rfl
theorem binV_9 (a b : Int) : binV (⟨#[60, 62]⟩ : ByteArray) a b = (truV (cmpV 198 a b), 0) := by rw [binV_some (n := 198) (by rfl)]; rfl
theorem binV_10 (a b : Int) : binV (⟨#[97, 110, 100]⟩ : ByteArray) a b = (truV (cmpV 199 a b), 0) := by rw [binV_some (n := 199) (by rfl)]; rfl
theorem binV_11 (a b : Int) : binV (⟨#[111, 114]⟩ : ByteArray) a b = (truV (cmpV 200 a b), 0) := by rw [binV_some (n := 200) (by rfl)]; rfl
theorem binV_not {s : ByteArray} (c1 : ¬ s = ⟨#[43]⟩) (c2 : ¬ s = ⟨#[45]⟩) (c3 : ¬ s = ⟨#[42]⟩) (c4 : ¬ s = ⟨#[47]⟩) (c5 : ¬ s = ⟨#[37]⟩) (c6 : ¬ s = ⟨#[60]⟩) (c7 : ¬ s = ⟨#[60, 61]⟩) (c8 : ¬ s = ⟨#[61]⟩) (c9 : ¬ s = ⟨#[60, 62]⟩) (c10 : ¬ s = ⟨#[97, 110, 100]⟩) (c11 : ¬ s = ⟨#[111, 114]⟩) (a b : Int) : binV s a b = (0, 10) := by
 refine binV_none ?_ a b
 have h : inL opL s = false := by
  unfold inL
  rw [List.any_eq_false]
  intro x hx
  simp only [opL, List.mem_cons, List.not_mem_nil, or_false] at hx
  intro h
  have e := of_decide_eq_true h
  subst e
  rcases hx with h | h | h | h | h | h | h | h | h | h | h <;> first | exact c1 h | exact c2 h | exact c3 h | exact c4 h | exact c5 h | exact c6 h | exact c7 h | exact c8 h | exact c9 h | exact c10 h | exact c11 h
 rw [← opNum_isSome] at h
 cases hq : opNum s with
 | none => rfl
 | some n => rw [hq] at h; cases h
set_option maxHeartbeats 4000000 in
theorem bin4_calls (s : ByteArray) {a b : Int} (ha : InR a) (hb : InR b) (w : World) : Calls Tryz.prog 144 #[.string s, .int .i64 a, .int .i64 b] w fun e w' => e = .returned (.tuple #[.int .i64 (binV s a b).1, .int .i64 (binV s a b).2]) ∧ w' = w := by
 by_cases c1 : s = ⟨#[43]⟩
 ·have hv : (binV s a b) = (wrap64 (IntKind.u64.wrap (IntKind.u64.wrap a + IntKind.u64.wrap b)), 0) := by rw [c1, binV_1, add_raw]; rfl
  rw [hv]
  have d1 : (s.toList == [43]) = true := by rw [c1, ByteArray.toList_eq]; rfl
  clear hv
  clear c1
  go_enter Tryz.func144, Tryz.ntmps144
  go_wp2_with fail
  go_ret2
  exact ⟨rfl, rfl⟩
 by_cases c2 : s = ⟨#[45]⟩
 ·have hv : (binV s a b) = (wrap64 (IntKind.u64.wrap (IntKind.u64.wrap a - IntKind.u64.wrap b)), 0) := by rw [c2, binV_2, sub_raw]; rfl
  rw [hv]
  have d1 : (s.toList == [43]) = false := beq_eq_false_iff_ne.2 (fun h => c1 (toList_inj (by simpa using h)))
  have d2 : (s.toList == [45]) = true := by rw [c2, ByteArray.toList_eq]; rfl
  clear hv
  clear c1 c2
  go_enter Tryz.func144, Tryz.ntmps144
  go_wp2_with fail
  go_ret2
  exact ⟨rfl, rfl⟩
 by_cases c3 : s = ⟨#[42]⟩
 ·have hv : (binV s a b) = (wrap64 (IntKind.u64.wrap a * IntKind.u64.wrap b % 18446744073709551616), 0) := by rw [c3, binV_3, mul_raw]; rfl
  rw [hv]
  have hp := product_calls (IntKind.u64.wrap a) (IntKind.u64.wrap b) (u64_in a).1 (u64_in a).2 (u64_in b).1 (u64_in b).2 w
  have d1 : (s.toList == [43]) = false := beq_eq_false_iff_ne.2 (fun h => c1 (toList_inj (by simpa using h)))
  have d2 : (s.toList == [45]) = false := beq_eq_false_iff_ne.2 (fun h => c2 (toList_inj (by simpa using h)))
  have d3 : (s.toList == [42]) = true := by rw [c3, ByteArray.toList_eq]; rfl
  clear hv
  clear c1 c2 c3
  go_enter Tryz.func144, Tryz.ntmps144
  go_wp2_with fail
  refine (hp).mono ?_
  rintro e w1 ⟨rfl, rfl⟩
  go_wp2_with fail
  go_ret2
  exact ⟨rfl, rfl⟩
 by_cases c4 : s = ⟨#[47]⟩
 ·have hv : (binV s a b) = (arithV 191 a b, 0) := by rw [c4, binV_4]
  rw [hv]
  have d1 : (s.toList == [43]) = false := beq_eq_false_iff_ne.2 (fun h => c1 (toList_inj (by simpa using h)))
  have d2 : (s.toList == [45]) = false := beq_eq_false_iff_ne.2 (fun h => c2 (toList_inj (by simpa using h)))
  have d3 : (s.toList == [42]) = false := beq_eq_false_iff_ne.2 (fun h => c3 (toList_inj (by simpa using h)))
  have d4 : (s.toList == [47]) = true := by rw [c4, ByteArray.toList_eq]; rfl
  clear hv
  clear c1 c2 c3 c4
  by_cases b0 : b = 0
  ·have e0 : (b == (0 : Int)) = true := by rw [b0]; rfl
   have hz : arithV 191 a b = 0 := by rw [b0, arithV_4, divB_zero, if_neg Bool.false_ne_true]
   rw [hz]
   clear hz b0
   go_enter Tryz.func144, Tryz.ntmps144
   go_wp2_with fail
   go_ret2
   exact ⟨rfl, rfl⟩
  have e0 : (b == (0 : Int)) = false := beq_eq_false_iff_ne.2 b0
  have hl := least_calls a b w
  cases hL : ((IntKind.u64.wrap a == 9223372036854775808) && (b == -1)) with
  | true =>
   have hz : arithV 191 a b = 0 := by rw [arithV_4, divB_least ha hL, if_neg Bool.false_ne_true]
   rw [hL] at hl
   rw [hz]
   clear hz hL b0
   go_enter Tryz.func144, Tryz.ntmps144
   go_wp2_with fail
   refine (hl).mono ?_
   rintro e w1 ⟨rfl, rfl⟩
   go_wp2_with fail
   go_ret2
   exact ⟨rfl, rfl⟩
  | false =>
   rw [hL] at hl
   have h1 := size_calls a w
   have h2 := size_calls b w
   rw [size_eq ha] at h1
   rw [size_eq hb] at h2
   have hq := quo_raw ha b0 hL
   rw [hq]
   have hsg := signed_calls (IntKind.u64.wrap ((a.natAbs : Int).tdiv (b.natAbs : Int))) (!(decide (a < 0) == decide (b < 0))) w
   have hnb : (b.natAbs : Int) ≠ 0 := by omega
   clear hq
   have hpp : 0 ≤ (a.natAbs : Int) := by omega
   have hqq : 0 ≤ (b.natAbs : Int) := by omega
   generalize (a.natAbs : Int) = p at h1 hsg hpp ⊢
   generalize (b.natAbs : Int) = q at h2 hsg hqq hnb ⊢
   clear hL b0
   go_enter Tryz.func144, Tryz.ntmps144
   go_wp2_with fail
   refine (hl).mono ?_
   rintro e w1 ⟨rfl, rfl⟩
   go_wp2_with fail
   refine (h1).mono ?_
   rintro e w1 ⟨rfl, rfl⟩
   go_wp2_with fail
   refine (h2).mono ?_
   rintro e w1 ⟨rfl, rfl⟩
   go_wp2_with fail
   refine (hsg).mono ?_
   rintro e w1 ⟨rfl, rfl⟩
   go_wp2_with fail
   go_ret2
   exact ⟨rfl, rfl⟩
 by_cases c5 : s = ⟨#[37]⟩
 ·have hv : (binV s a b) = (arithV 193 a b, 0) := by rw [c5, binV_5]
  rw [hv]
  have d1 : (s.toList == [43]) = false := beq_eq_false_iff_ne.2 (fun h => c1 (toList_inj (by simpa using h)))
  have d2 : (s.toList == [45]) = false := beq_eq_false_iff_ne.2 (fun h => c2 (toList_inj (by simpa using h)))
  have d3 : (s.toList == [42]) = false := beq_eq_false_iff_ne.2 (fun h => c3 (toList_inj (by simpa using h)))
  have d4 : (s.toList == [47]) = false := beq_eq_false_iff_ne.2 (fun h => c4 (toList_inj (by simpa using h)))
  have d5 : (s.toList == [37]) = true := by rw [c5, ByteArray.toList_eq]; rfl
  clear hv
  clear c1 c2 c3 c4 c5
  by_cases b0 : b = 0
  ·have e0 : (b == (0 : Int)) = true := by rw [b0]; rfl
   have hz : arithV 193 a b = 0 := by rw [b0, arithV_5, divB_zero, if_neg Bool.false_ne_true]
   rw [hz]
   clear hz b0
   go_enter Tryz.func144, Tryz.ntmps144
   go_wp2_with fail
   go_ret2
   exact ⟨rfl, rfl⟩
  have e0 : (b == (0 : Int)) = false := beq_eq_false_iff_ne.2 b0
  have hl := least_calls a b w
  cases hL : ((IntKind.u64.wrap a == 9223372036854775808) && (b == -1)) with
  | true =>
   have hz : arithV 193 a b = 0 := by rw [arithV_5, divB_least ha hL, if_neg Bool.false_ne_true]
   rw [hL] at hl
   rw [hz]
   clear hz hL b0
   go_enter Tryz.func144, Tryz.ntmps144
   go_wp2_with fail
   refine (hl).mono ?_
   rintro e w1 ⟨rfl, rfl⟩
   go_wp2_with fail
   go_ret2
   exact ⟨rfl, rfl⟩
  | false =>
   rw [hL] at hl
   have h1 := size_calls a w
   have h2 := size_calls b w
   rw [size_eq ha] at h1
   rw [size_eq hb] at h2
   have hq := rem_raw ha b0 hL
   rw [hq]
   have hsg := signed_calls ((a.natAbs : Int) % (b.natAbs : Int)) (decide (a < 0)) w
   have hnb : (b.natAbs : Int) ≠ 0 := by omega
   clear hq
   have hpp : 0 ≤ (a.natAbs : Int) := by omega
   have hqq : 0 ≤ (b.natAbs : Int) := by omega
   generalize (a.natAbs : Int) = p at h1 hsg hpp ⊢
   generalize (b.natAbs : Int) = q at h2 hsg hqq hnb ⊢
   clear hL b0
   go_enter Tryz.func144, Tryz.ntmps144
   go_wp2_with fail
   refine (hl).mono ?_
   rintro e w1 ⟨rfl, rfl⟩
   go_wp2_with fail
   refine (h1).mono ?_
   rintro e w1 ⟨rfl, rfl⟩
   go_wp2_with fail
   refine (h2).mono ?_
   rintro e w1 ⟨rfl, rfl⟩
   go_wp2_with fail
   refine (hsg).mono ?_
   rintro e w1 ⟨rfl, rfl⟩
   go_wp2_with fail
   go_ret2
   exact ⟨rfl, rfl⟩
 by_cases c6 : s = ⟨#[60]⟩
 ·have hv : (binV s a b) = (truV (decide (bits BinOp.xor .u64 (IntKind.u64.wrap a) 9223372036854775808 < bits BinOp.xor .u64 (IntKind.u64.wrap b) 9223372036854775808)), 0) := by rw [c6, binV_6, top_lt ha hb]; rfl
  rw [hv]
  have ht := truth4_calls (decide (bits BinOp.xor .u64 (IntKind.u64.wrap a) 9223372036854775808 < bits BinOp.xor .u64 (IntKind.u64.wrap b) 9223372036854775808)) w
  have d1 : (s.toList == [43]) = false := beq_eq_false_iff_ne.2 (fun h => c1 (toList_inj (by simpa using h)))
  have d2 : (s.toList == [45]) = false := beq_eq_false_iff_ne.2 (fun h => c2 (toList_inj (by simpa using h)))
  have d3 : (s.toList == [42]) = false := beq_eq_false_iff_ne.2 (fun h => c3 (toList_inj (by simpa using h)))
  have d4 : (s.toList == [47]) = false := beq_eq_false_iff_ne.2 (fun h => c4 (toList_inj (by simpa using h)))
  have d5 : (s.toList == [37]) = false := beq_eq_false_iff_ne.2 (fun h => c5 (toList_inj (by simpa using h)))
  have d6 : (s.toList == [60]) = true := by rw [c6, ByteArray.toList_eq]; rfl
  clear hv
  clear c1 c2 c3 c4 c5 c6
  go_enter Tryz.func144, Tryz.ntmps144
  go_wp2_with fail
  refine (ht).mono ?_
  rintro e w1 ⟨rfl, rfl⟩
  go_wp2_with fail
  go_ret2
  exact ⟨rfl, rfl⟩
 by_cases c7 : s = ⟨#[60, 61]⟩
 ·have hv : (binV s a b) = (truV (decide (bits BinOp.xor .u64 (IntKind.u64.wrap a) 9223372036854775808 ≤ bits BinOp.xor .u64 (IntKind.u64.wrap b) 9223372036854775808)), 0) := by rw [c7, binV_7, top_le ha hb]; rfl
  rw [hv]
  have ht := truth4_calls (decide (bits BinOp.xor .u64 (IntKind.u64.wrap a) 9223372036854775808 ≤ bits BinOp.xor .u64 (IntKind.u64.wrap b) 9223372036854775808)) w
  have d1 : (s.toList == [43]) = false := beq_eq_false_iff_ne.2 (fun h => c1 (toList_inj (by simpa using h)))
  have d2 : (s.toList == [45]) = false := beq_eq_false_iff_ne.2 (fun h => c2 (toList_inj (by simpa using h)))
  have d3 : (s.toList == [42]) = false := beq_eq_false_iff_ne.2 (fun h => c3 (toList_inj (by simpa using h)))
  have d4 : (s.toList == [47]) = false := beq_eq_false_iff_ne.2 (fun h => c4 (toList_inj (by simpa using h)))
  have d5 : (s.toList == [37]) = false := beq_eq_false_iff_ne.2 (fun h => c5 (toList_inj (by simpa using h)))
  have d6 : (s.toList == [60]) = false := beq_eq_false_iff_ne.2 (fun h => c6 (toList_inj (by simpa using h)))
  have d7 : (s.toList == [60, 61]) = true := by rw [c7, ByteArray.toList_eq]; rfl
  clear hv
  clear c1 c2 c3 c4 c5 c6 c7
  go_enter Tryz.func144, Tryz.ntmps144
  go_wp2_with fail
  refine (ht).mono ?_
  rintro e w1 ⟨rfl, rfl⟩
  go_wp2_with fail
  go_ret2
  exact ⟨rfl, rfl⟩
 by_cases c8 : s = ⟨#[61]⟩
 ·have hv : (binV s a b) = (truV (bits BinOp.xor .u64 (IntKind.u64.wrap a) (IntKind.u64.wrap b) == 0), 0) := by rw [c8, binV_8, xor_zero ha hb]; rfl
  rw [hv]
  have ht := truth4_calls (bits BinOp.xor .u64 (IntKind.u64.wrap a) (IntKind.u64.wrap b) == 0) w
  have d1 : (s.toList == [43]) = false := beq_eq_false_iff_ne.2 (fun h => c1 (toList_inj (by simpa using h)))
  have d2 : (s.toList == [45]) = false := beq_eq_false_iff_ne.2 (fun h => c2 (toList_inj (by simpa using h)))
  have d3 : (s.toList == [42]) = false := beq_eq_false_iff_ne.2 (fun h => c3 (toList_inj (by simpa using h)))
  have d4 : (s.toList == [47]) = false := beq_eq_false_iff_ne.2 (fun h => c4 (toList_inj (by simpa using h)))
  have d5 : (s.toList == [37]) = false := beq_eq_false_iff_ne.2 (fun h => c5 (toList_inj (by simpa using h)))
  have d6 : (s.toList == [60]) = false := beq_eq_false_iff_ne.2 (fun h => c6 (toList_inj (by simpa using h)))
  have d7 : (s.toList == [60, 61]) = false := beq_eq_false_iff_ne.2 (fun h => c7 (toList_inj (by simpa using h)))
  have d8 : (s.toList == [61]) = true := by rw [c8, ByteArray.toList_eq]; rfl
  clear hv
  clear c1 c2 c3 c4 c5 c6 c7 c8
  go_enter Tryz.func144, Tryz.ntmps144
  go_wp2_with fail
  refine (ht).mono ?_
  rintro e w1 ⟨rfl, rfl⟩
  go_wp2_with fail
  go_ret2
  exact ⟨rfl, rfl⟩
 by_cases c9 : s = ⟨#[60, 62]⟩
 ·have hv : (binV s a b) = (truV (bits BinOp.xor .u64 (IntKind.u64.wrap a) (IntKind.u64.wrap b) != 0), 0) := by rw [c9, binV_9, show (bits BinOp.xor .u64 (IntKind.u64.wrap a) (IntKind.u64.wrap b) != 0) = (a != b) by rw [bne, xor_zero ha hb]; rfl]; rfl
  rw [hv]
  have ht := truth4_calls (bits BinOp.xor .u64 (IntKind.u64.wrap a) (IntKind.u64.wrap b) != 0) w
  have d1 : (s.toList == [43]) = false := beq_eq_false_iff_ne.2 (fun h => c1 (toList_inj (by simpa using h)))
  have d2 : (s.toList == [45]) = false := beq_eq_false_iff_ne.2 (fun h => c2 (toList_inj (by simpa using h)))
  have d3 : (s.toList == [42]) = false := beq_eq_false_iff_ne.2 (fun h => c3 (toList_inj (by simpa using h)))
  have d4 : (s.toList == [47]) = false := beq_eq_false_iff_ne.2 (fun h => c4 (toList_inj (by simpa using h)))
  have d5 : (s.toList == [37]) = false := beq_eq_false_iff_ne.2 (fun h => c5 (toList_inj (by simpa using h)))
  have d6 : (s.toList == [60]) = false := beq_eq_false_iff_ne.2 (fun h => c6 (toList_inj (by simpa using h)))
  have d7 : (s.toList == [60, 61]) = false := beq_eq_false_iff_ne.2 (fun h => c7 (toList_inj (by simpa using h)))
  have d8 : (s.toList == [61]) = false := beq_eq_false_iff_ne.2 (fun h => c8 (toList_inj (by simpa using h)))
  have d9 : (s.toList == [60, 62]) = true := by rw [c9, ByteArray.toList_eq]; rfl
  clear hv
  clear c1 c2 c3 c4 c5 c6 c7 c8 c9
  go_enter Tryz.func144, Tryz.ntmps144
  go_wp2_with fail
  refine (ht).mono ?_
  rintro e w1 ⟨rfl, rfl⟩
  go_wp2_with fail
  go_ret2
  exact ⟨rfl, rfl⟩
 by_cases c10 : s = ⟨#[97, 110, 100]⟩
 ·have hv : (binV s a b) = (truV ((a != 0) && (b != 0)), 0) := by rw [c10, binV_10]; rfl
  rw [hv]
  have d1 : (s.toList == [43]) = false := beq_eq_false_iff_ne.2 (fun h => c1 (toList_inj (by simpa using h)))
  have d2 : (s.toList == [45]) = false := beq_eq_false_iff_ne.2 (fun h => c2 (toList_inj (by simpa using h)))
  have d3 : (s.toList == [42]) = false := beq_eq_false_iff_ne.2 (fun h => c3 (toList_inj (by simpa using h)))
  have d4 : (s.toList == [47]) = false := beq_eq_false_iff_ne.2 (fun h => c4 (toList_inj (by simpa using h)))
  have d5 : (s.toList == [37]) = false := beq_eq_false_iff_ne.2 (fun h => c5 (toList_inj (by simpa using h)))
  have d6 : (s.toList == [60]) = false := beq_eq_false_iff_ne.2 (fun h => c6 (toList_inj (by simpa using h)))
  have d7 : (s.toList == [60, 61]) = false := beq_eq_false_iff_ne.2 (fun h => c7 (toList_inj (by simpa using h)))
  have d8 : (s.toList == [61]) = false := beq_eq_false_iff_ne.2 (fun h => c8 (toList_inj (by simpa using h)))
  have d9 : (s.toList == [60, 62]) = false := beq_eq_false_iff_ne.2 (fun h => c9 (toList_inj (by simpa using h)))
  have d10 : (s.toList == [97, 110, 100]) = true := by rw [c10, ByteArray.toList_eq]; rfl
  clear hv
  clear c1 c2 c3 c4 c5 c6 c7 c8 c9 c10
  cases h0 : (a != (0 : Int)) with
  | false =>
   rw [Bool.false_and]
   have ht := truth4_calls false w
   go_enter Tryz.func144, Tryz.ntmps144
   go_wp2_with fail
   refine (ht).mono ?_
   rintro e w1 ⟨rfl, rfl⟩
   go_wp2_with fail
   go_ret2
   exact ⟨rfl, rfl⟩
  | true =>
   rw [Bool.true_and]
   have ht := truth4_calls (b != 0) w
   go_enter Tryz.func144, Tryz.ntmps144
   go_wp2_with fail
   refine (ht).mono ?_
   rintro e w1 ⟨rfl, rfl⟩
   go_wp2_with fail
   go_ret2
   exact ⟨rfl, rfl⟩
 by_cases c11 : s = ⟨#[111, 114]⟩
 ·have hv : (binV s a b) = (truV ((a != 0) || (b != 0)), 0) := by rw [c11, binV_11, ← or_zero ha hb]; rfl
  rw [hv]
  have d1 : (s.toList == [43]) = false := beq_eq_false_iff_ne.2 (fun h => c1 (toList_inj (by simpa using h)))
  have d2 : (s.toList == [45]) = false := beq_eq_false_iff_ne.2 (fun h => c2 (toList_inj (by simpa using h)))
  have d3 : (s.toList == [42]) = false := beq_eq_false_iff_ne.2 (fun h => c3 (toList_inj (by simpa using h)))
  have d4 : (s.toList == [47]) = false := beq_eq_false_iff_ne.2 (fun h => c4 (toList_inj (by simpa using h)))
  have d5 : (s.toList == [37]) = false := beq_eq_false_iff_ne.2 (fun h => c5 (toList_inj (by simpa using h)))
  have d6 : (s.toList == [60]) = false := beq_eq_false_iff_ne.2 (fun h => c6 (toList_inj (by simpa using h)))
  have d7 : (s.toList == [60, 61]) = false := beq_eq_false_iff_ne.2 (fun h => c7 (toList_inj (by simpa using h)))
  have d8 : (s.toList == [61]) = false := beq_eq_false_iff_ne.2 (fun h => c8 (toList_inj (by simpa using h)))
  have d9 : (s.toList == [60, 62]) = false := beq_eq_false_iff_ne.2 (fun h => c9 (toList_inj (by simpa using h)))
  have d10 : (s.toList == [97, 110, 100]) = false := beq_eq_false_iff_ne.2 (fun h => c10 (toList_inj (by simpa using h)))
  have d11 : (s.toList == [111, 114]) = true := by rw [c11, ByteArray.toList_eq]; rfl
  clear hv
  clear c1 c2 c3 c4 c5 c6 c7 c8 c9 c10 c11
  cases h0 : (a != (0 : Int)) with
  | true =>
   rw [Bool.true_or]
   have ht := truth4_calls true w
   go_enter Tryz.func144, Tryz.ntmps144
   go_wp2_with fail
   refine (ht).mono ?_
   rintro e w1 ⟨rfl, rfl⟩
   go_wp2_with fail
   go_ret2
   exact ⟨rfl, rfl⟩
  | false =>
   rw [Bool.false_or]
   have ht := truth4_calls (b != 0) w
   go_enter Tryz.func144, Tryz.ntmps144
   go_wp2_with fail
   refine (ht).mono ?_
   rintro e w1 ⟨rfl, rfl⟩
   go_wp2_with fail
   go_ret2
   exact ⟨rfl, rfl⟩
 rw [binV_not c1 c2 c3 c4 c5 c6 c7 c8 c9 c10 c11]
 have d1 : (s.toList == [43]) = false := beq_eq_false_iff_ne.2 (fun h => c1 (toList_inj (by simpa using h)))
 have d2 : (s.toList == [45]) = false := beq_eq_false_iff_ne.2 (fun h => c2 (toList_inj (by simpa using h)))
 have d3 : (s.toList == [42]) = false := beq_eq_false_iff_ne.2 (fun h => c3 (toList_inj (by simpa using h)))
 have d4 : (s.toList == [47]) = false := beq_eq_false_iff_ne.2 (fun h => c4 (toList_inj (by simpa using h)))
 have d5 : (s.toList == [37]) = false := beq_eq_false_iff_ne.2 (fun h => c5 (toList_inj (by simpa using h)))
 have d6 : (s.toList == [60]) = false := beq_eq_false_iff_ne.2 (fun h => c6 (toList_inj (by simpa using h)))
 have d7 : (s.toList == [60, 61]) = false := beq_eq_false_iff_ne.2 (fun h => c7 (toList_inj (by simpa using h)))
 have d8 : (s.toList == [61]) = false := beq_eq_false_iff_ne.2 (fun h => c8 (toList_inj (by simpa using h)))
 have d9 : (s.toList == [60, 62]) = false := beq_eq_false_iff_ne.2 (fun h => c9 (toList_inj (by simpa using h)))
 have d10 : (s.toList == [97, 110, 100]) = false := beq_eq_false_iff_ne.2 (fun h => c10 (toList_inj (by simpa using h)))
 have d11 : (s.toList == [111, 114]) = false := beq_eq_false_iff_ne.2 (fun h => c11 (toList_inj (by simpa using h)))
 clear c1 c2 c3 c4 c5 c6 c7 c8 c9 c10 c11
 go_enter Tryz.func144, Tryz.ntmps144
 go_wp2_with fail
 go_ret2
 exact ⟨rfl, rfl⟩
end Go.Proofs.YticndoihkfbpoaaGreatDoor
