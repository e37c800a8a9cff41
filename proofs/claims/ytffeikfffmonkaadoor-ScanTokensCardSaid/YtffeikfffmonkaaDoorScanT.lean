/- Plain law of layer 1: the reference's number is the program's. -/
import Derived.Test.YtffeikfffmonkaaDoorScanR
import Derived.Test.YtffeikfffmonkaaDoorScanS
namespace Go.Proofs.YtffeikfffmonkaaDoor
open Go Go.RowKit Go.Lib Go.Proofs.YtffeikfffmonkaaDoorW.PrintWords Go.Proofs.YtffeikfffmonkaaDoorW.PrintMore
set_option maxRecDepth 100000
set_option linter.unusedSimpArgs false
set_option linter.unusedVariables false

theorem wrap_small' {i : Int} (h0 : 0 ≤ i) (h : i < 9223372036854775808) : wrap64 i = i := by unfold wrap64; omega

def isDig (c : UInt8) : Prop := 48 ≤ c.toNat ∧ c.toNat ≤ 57
def dval (a : Nat) (l : List UInt8) : Nat := l.foldl (fun a c => a * 10 + (c.toNat - 48)) a
theorem dval_nil (a : Nat) : dval a [] = a := rfl
theorem dval_cons (a : Nat) (c : UInt8) (r : List UInt8) : dval a (c :: r) = dval (a * 10 + (c.toNat - 48)) r := List.foldl_cons ..
theorem dval_ge : ∀ (l : List UInt8) (a : Nat), a * 10 ^ l.length ≤ dval a l
  | [], a => by rw [dval_nil]; simp
  | c :: r, a => by
    have h := dval_ge r (a * 10 + (c.toNat - 48))
    rw [dval_cons, List.length_cons, Nat.pow_succ]
    refine Nat.le_trans ?_ h
    rw [Nat.mul_comm (10 ^ r.length) 10, ← Nat.mul_assoc]
    exact Nat.mul_le_mul_right _ (Nat.le_add_right _ _)
theorem dval_mono (l : List UInt8) (a : Nat) : a ≤ dval a l := Nat.le_trans (Nat.le_mul_of_pos_right a (Nat.pow_pos (by decide))) (dval_ge l a)
theorem dval_lt : ∀ (l : List UInt8) (a : Nat), (∀ c ∈ l, isDig c) → dval a l < (a + 1) * 10 ^ l.length
  | [], a, _ => by rw [dval_nil]; simp
  | c :: r, a, hl => by
    have h := dval_lt r (a * 10 + (c.toNat - 48)) (fun d hd => hl d (by simp [hd]))
    have hc : c.toNat - 48 ≤ 9 := by have := hl c (by simp); unfold isDig at this; omega
    rw [dval_cons, List.length_cons, Nat.pow_succ]
    refine Nat.lt_of_lt_of_le h ?_
    rw [Nat.mul_comm (10 ^ r.length) 10, ← Nat.mul_assoc]
    exact Nat.mul_le_mul_right _ (by omega)

theorem parseM_val : ∀ (l : List UInt8) (a : Nat), (∀ c ∈ l, isDig c) → a < 18446744073709551616 →
    Lib.parseUintM 18446744073709551615 a l = if dval a l < 18446744073709551616 then .ok (dval a l) else .range
  | [], a, _, ha => by rw [Lib.parseUintM, dval_nil, if_pos ha]
  | c :: r, a, hl, ha => by
    have hc := hl c (by simp)
    have hm := dval_mono r (a * 10 + (c.toNat - 48))
    unfold isDig at hc
    rw [Lib.parseUintM, if_pos hc, dval_cons]
    by_cases h1 : 1844674407370955162 ≤ a
    · rw [if_pos h1, if_neg (by omega)]
    · rw [if_neg h1]
      by_cases h2 : 18446744073709551615 < a * 10 + (c.toNat - 48)
      · rw [if_pos h2, if_neg (by omega)]
      · rw [if_neg h2]
        exact parseM_val r _ (fun d hd => hl d (by simp [hd])) (by omega)

theorem parse_val (l : List UInt8) (h0 : l ≠ []) (hl : ∀ c ∈ l, isDig c) : Lib.parseIntB 64 l = if dval 0 l < 9223372036854775808 then .ok (dval 0 l : Int) else .range := by
  cases l with
  | nil => exact absurd rfl h0
  | cons c r =>
    have hc := hl c (by simp)
    unfold isDig at hc
    have hu : Lib.parseUintB 64 (c :: r) = if dval 0 (c :: r) < 18446744073709551616 then .ok (dval 0 (c :: r)) else .range := by
      unfold Lib.parseUintB
      rw [if_neg (by simp)]
      exact parseM_val (c :: r) 0 hl (by decide)
    generalize dval 0 (c :: r) = v at hu ⊢
    unfold Lib.parseIntB
    simp only
    rw [if_neg (by omega), hu]
    by_cases h1 : v < 18446744073709551616
    · rw [if_pos h1]
      simp only
      by_cases h2 : v < 9223372036854775808
      · rw [if_neg (by omega), if_neg (by omega), if_neg (by omega), if_pos h2]
      · rw [if_pos (by omega), if_neg h2]
    · rw [if_neg h1, if_neg (by omega)]

theorem refnum_tells (t : ByteArray) (ht : t.size ≤ 65536) (d : Nat) : ∀ (k i a : Nat), i ≤ t.size → t.size - i = d → d < k → (∀ c ∈ rest t i, isDig c) → dval a (rest t i) < 18446744073709551616 →
    PScan.penduleref01_number.l0 k t (a : Int) (i : Int) = some (wrap64 (dval a (rest t i) : Int), decide ((dval a (rest t i) : Int) < 9223372036854775808)) := by
  induction d with
  | zero =>
    intro k i a hi hd hk hl hv
    obtain ⟨k, rfl⟩ : ∃ m, k = m + 1 := ⟨k - 1, by omega⟩
    have hr : rest t i = [] := List.eq_nil_of_length_eq_zero (by rw [rest_len]; exact hd)
    have l1 : ¬ (i : Int) < (t.size : Int) := by omega
    rw [PScan.penduleref01_number.l0, if_neg l1, hr, dval_nil]
  | succ d ih =>
    intro k i a hi hd hk hl hv
    obtain ⟨k, rfl⟩ : ∃ m, k = m + 1 := ⟨k - 1, by omega⟩
    obtain ⟨c, hc, hb⟩ := rest_cons t i (by omega)
    have l1 : (i : Int) < (t.size : Int) := by omega
    have l2 : (0 : Int) ≤ (i : Int) := by omega
    have l3 : (i : Int) < 9223372036854775807 := by omega
    have cc : ((i + 1 : Nat) : Int) = (i : Int) + 1 := by omega
    have hcd := hl c (by rw [hc]; simp)
    rw [hc, dval_cons] at hv
    have hm := dval_mono (rest t (i + 1)) (a * 10 + (c.toNat - 48))
    have hrec := ih k (i + 1) (a * 10 + (c.toNat - 48)) (by omega) (by omega) (by omega) (fun x hx => hl x (by rw [hc]; simp [hx])) hv
    have hw : IntKind.u64.wrap ((IntKind.u64.wrap (10 * (a : Int))) + ((((c.toNat : Nat) : Int) - 48) % 256)) = ((a * 10 + (c.toNat - 48) : Nat) : Int) := by
      unfold isDig at hcd
      have hx : a * 10 + (c.toNat - 48) < 18446744073709551616 := Nat.lt_of_le_of_lt hm hv
      clear hrec hv hm hl
      rw [IntKind.wrap_u64, IntKind.wrap_u64]
      omega
    rw [PScan.penduleref01_number.l0, if_pos l1, if_pos l2, hb, hw, wrap_add l2 l3, ← cc, hrec, hc, dval_cons]

/-- The number that a text of digits spells, as the reference reads it. -/
theorem refnum_eq (t : ByteArray) (ht : t.size ≤ 65536) (h0 : 0 < t.size) (hl : ∀ c ∈ t.data.toList, isDig c) (k : Nat) (hk : t.size + 2 < k) :
    ∃ v ok, PScan.penduleref01_number.f k t = some (v, ok) ∧ ok = (match Lib.parseIntB 64 t.data.toList with | .ok _ => (decide (t = ⟨#[48]⟩) || !(bt t 0 == 48)) | _ => false) ∧ (ok = true → v = numN t) := by
  have hne : t.data.toList ≠ [] := fun h => by have := data_length t; rw [h] at this; simp at this; omega
  have hp := parse_val t.data.toList hne hl
  obtain ⟨c, hc, hb⟩ := rest_cons t 0 h0
  have hr0 : rest t 0 = t.data.toList := by unfold rest; rw [List.drop_zero]
  rw [show ((0 : Nat) : Int) = 0 from rfl] at hb
  have hlen : (rest t 1).length = t.size - 1 := rest_len t 1
  have hcd := hl c (by rw [← hr0, hc]; simp)
  obtain ⟨k, rfl⟩ : ∃ m, k = m + 1 := ⟨k - 1, by omega⟩
  have hlead : t = ⟨#[48]⟩ ↔ (t.size = 1 ∧ bt t 0 = 48) := by
    constructor
    · intro h; subst h; exact ⟨rfl, by decide⟩
    · rintro ⟨h1, h2⟩
      refine data_inj ?_
      rw [← hr0, hc]
      have h3 : rest t (0 + 1) = [] := List.eq_nil_of_length_eq_zero (by rw [rest_len]; omega)
      rw [h3]
      have : c = 48 := UInt8.toNat_inj.mp (by rw [hb] at h2; have : c.toNat = 48 := by omega
                                              rw [this]; rfl)
      rw [this]
  have hfin : ∀ ok0 : Bool, (t.size ≤ 19) → ok0 = (decide (t = ⟨#[48]⟩) || !(bt t 0 == 48)) → ok0 = true →
      PScan.penduleref01_number.l0 k t 0 0 = some (numN t, (match Lib.parseIntB 64 t.data.toList with | .ok _ => (decide (t = ⟨#[48]⟩) || !(bt t 0 == 48)) | _ => false)) ∨
      (PScan.penduleref01_number.l0 k t 0 0 = some (wrap64 (dval 0 t.data.toList : Int), false) ∧ (match Lib.parseIntB 64 t.data.toList with | .ok _ => (decide (t = ⟨#[48]⟩) || !(bt t 0 == 48)) | _ => false) = false) := by
    intro ok0 h19 hk0 hk1
    have hlt := dval_lt t.data.toList 0 hl
    rw [data_length] at hlt
    have hpw : 10 ^ t.size ≤ 10 ^ 19 := Nat.pow_le_pow_right (by decide) h19
    have hv : dval 0 t.data.toList < 18446744073709551616 := by
      have e : (10 : Nat) ^ 19 = 10000000000000000000 := by decide
      rw [e] at hpw; omega
    have ht0 := refnum_tells t ht t.size k 0 0 (by omega) (by omega) (by omega) (by rw [hr0]; exact hl) (by rw [hr0]; exact hv)
    rw [hr0] at ht0
    rw [show ((0 : Nat) : Int) = 0 from rfl] at ht0
    rw [ht0]
    unfold numN
    rw [hp]
    generalize dval 0 t.data.toList = v at hv ⊢
    by_cases h2 : v < 9223372036854775808
    · left
      rw [if_pos h2]
      simp only
      rw [← hk0, hk1, decide_eq_true (show (v : Int) < 9223372036854775808 by omega), wrap_small' (by omega) (by omega)]
    · right
      rw [if_neg h2]
      simp only
      rw [decide_eq_false (show ¬ (v : Int) < 9223372036854775808 by omega)]
      exact ⟨rfl, trivial⟩
  have hj0 : ∀ b : Bool, PScan.penduleref01_number.j0 (k + 1) t b = if b = true then some (0, false) else PScan.penduleref01_number.l0 k t 0 0 := fun b => by rw [PScan.penduleref01_number.j0]
  unfold PScan.penduleref01_number.f
  by_cases hbig : (t.size : Int) > 19
  · rw [if_pos hbig, hj0, if_pos rfl]
    refine ⟨0, false, rfl, ?_, fun h => by cases h⟩
    rw [hp]
    have hn1 : ¬ t = ⟨#[48]⟩ := fun h => by have := hlead.mp h; omega
    by_cases hz : bt t 0 = 48
    · split
      · rw [decide_eq_false hn1, hz]; rfl
      · rfl
    · have hge := dval_ge (rest t 1) (c.toNat - 48)
      have hd : dval 0 t.data.toList = dval (c.toNat - 48) (rest t 1) := by rw [← hr0, hc, dval_cons, Nat.zero_mul, Nat.zero_add]
      have hpw : (10 : Nat) ^ 19 ≤ 10 ^ (rest t 1).length := Nat.pow_le_pow_right (by decide) (by omega)
      have e : (10 : Nat) ^ 19 = 10000000000000000000 := by decide
      rw [e] at hpw
      unfold isDig at hcd
      have hc1 : 1 ≤ c.toNat - 48 := by rw [hb] at hz; omega
      have hmul : 10 ^ (rest t 1).length ≤ (c.toNat - 48) * 10 ^ (rest t 1).length := Nat.le_mul_of_pos_left _ hc1
      rw [if_neg (by rw [hd]; omega)]
  · rw [if_neg hbig]
    by_cases h1 : (t.size : Int) > 1
    · rw [if_pos h1, if_pos (by omega), hj0]
      have hn1 : ¬ t = ⟨#[48]⟩ := fun h => by have := hlead.mp h; omega
      cases hz : (bt t 0 == 48) with
      | true =>
        rw [if_pos rfl]
        refine ⟨0, false, rfl, ?_, fun h => by cases h⟩
        split
        · rw [decide_eq_false hn1]; rfl
        · rfl
      | false =>
        rw [if_neg (by decide)]
        rcases hfin true (by omega) (by rw [hz, decide_eq_false hn1]; rfl) rfl with h | ⟨h, h'⟩
        · rw [hz] at h
          exact ⟨_, _, h, rfl, fun _ => rfl⟩
        · rw [hz] at h'
          exact ⟨_, _, h, h'.symm, fun h => by cases h⟩
    · rw [if_neg h1, hj0, if_neg (by decide)]
      have hs1 : t.size = 1 := by omega
      have hk0 : true = (decide (t = ⟨#[48]⟩) || !(bt t 0 == 48)) := by
        cases hz : (bt t 0 == 48) with
        | true => rw [decide_eq_true (hlead.mpr ⟨hs1, by simpa using hz⟩)]; rfl
        | false => simp
      rcases hfin true (by omega) hk0 rfl with h | ⟨h, h'⟩
      · exact ⟨_, _, h, rfl, fun _ => rfl⟩
      · exact ⟨_, _, h, h'.symm, fun h => by cases h⟩
end Go.Proofs.YtffeikfffmonkaaDoor
