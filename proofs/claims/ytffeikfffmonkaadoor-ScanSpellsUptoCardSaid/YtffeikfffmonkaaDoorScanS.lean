/- Plain law of layer 1: what Scan answers. -/
import Derived.Test.YtffeikfffmonkaaDoorScanQ
namespace Go.Proofs.YtffeikfffmonkaaDoor
open Go Go.RowKit Go.Lib Go.Proofs.YtffeikfffmonkaaDoorW.PrintWords Go.Proofs.YtffeikfffmonkaaDoorW.PrintMore PScan
set_option maxRecDepth 100000
set_option linter.unusedSimpArgs false
set_option linter.unusedVariables false

theorem data_inj {a b : ByteArray} (h : a.data.toList = b.data.toList) : a = b := ByteArray.ext (Array.ext' h)
theorem headOf_all (s : ByteArray) : headOf s s.size = s := data_inj (by rw [headOf_data, List.take_of_length_le (by rw [data_length]; exact Nat.le_refl _)])
theorem sign_pos : ∀ x ∈ signList, 0 < x.size ∧ ∀ c ∈ x.data.toList, c.toNat ≠ 10 := by
  intro x hx
  simp only [signList, List.mem_cons, List.not_mem_nil, or_false] at hx
  rcases hx with rfl | rfl | rfl | rfl | rfl | rfl | rfl | rfl | rfl | rfl | rfl | rfl | rfl | rfl | rfl | rfl | rfl | rfl <;> exact ⟨by decide, by decide⟩
theorem sign_head {s x : ByteArray} (h : signOf s = some x) : 0 < x.size ∧ x.size ≤ s.size ∧ x = headOf s x.size ∧ ∀ c ∈ x.data.toList, c.toNat ≠ 10 := by
  have hp := List.find?_some h
  have hm := List.mem_of_find?_eq_some h
  obtain ⟨h1, h2⟩ := sign_pos x hm
  unfold Lib.hasPrefix at hp
  obtain ⟨r, hr⟩ := List.isPrefixOf_iff_prefix.mp hp
  have hl := congrArg List.length hr
  rw [List.length_append, data_length, data_length] at hl
  refine ⟨h1, by omega, data_inj ?_, h2⟩
  rw [headOf_data, ← hr, List.take_append_of_le_length (by rw [data_length]; exact Nat.le_refl _), List.take_of_length_le (by rw [data_length]; exact Nat.le_refl _)]
theorem span_all (p : Int → Bool) (s : ByteArray) : ∀ c ∈ (headOf s (spanN p s)).data.toList, p (c.toNat : Int) = true := by
  intro c hc
  rw [headOf_data] at hc
  unfold spanN at hc
  rw [take_takeWhile] at hc
  exact takeWhile_all (fun c : UInt8 => p (c.toNat : Int)) _ c hc

theorem tokOf_ok (s : ByteArray) (h0 : 0 < s.size) (h : (tokOf s).2.2.2 = true) : 0 < (tokOf s).2.1.size ∧ (tokOf s).2.1.size ≤ s.size ∧ (tokOf s).2.1 = headOf s (tokOf s).2.1.size ∧ ∀ c ∈ (tokOf s).2.1.data.toList, c.toNat ≠ 10 := by
  unfold tokOf at h ⊢
  by_cases hd : digitB (bt s 0) = true
  · rw [if_pos hd] at h ⊢
    have hp := spanN_pos digitB s h0 hd
    have hl := spanN_le digitB s
    have hz := headOf_size s (spanN digitB s) hl
    simp only; rw [hz]
    refine ⟨hp, hl, rfl, fun c hc he => ?_⟩
    have := span_all digitB s c hc
    rw [he] at this; exact absurd this (by decide)
  · rw [if_neg hd] at h ⊢
    by_cases hn : (lowerB (bt s 0) || upperB (bt s 0)) = true
    · rw [if_pos hn] at h ⊢
      have hi : innerB (bt s 0) = true := by simp only [innerB, hn, Bool.true_or]
      have hp := spanN_pos innerB s h0 hi
      have hl := spanN_le innerB s
      have hz := headOf_size s (spanN innerB s) hl
      simp only; rw [hz]
      refine ⟨hp, hl, rfl, fun c hc he => ?_⟩
      have := span_all innerB s c hc
      rw [he] at this; exact absurd this (by decide)
    · rw [if_neg hn] at h ⊢
      cases hq : signOf s with
      | none => rw [hq] at h; simp at h
      | some x => exact sign_head hq

/-- The tokens from a place on. -/
def scanFrom (t : ByteArray) : Nat → Nat → List S32 → List S32 × Int × Int × Int
  | 0, _, _ => ([], 0, 0, 0)
  | f + 1, a, out =>
    if gapEnd t a = t.size then (out ++ [(⟨6, ⟨#[]⟩, 0, (placeAt t (gapEnd t a)).1, (placeAt t (gapEnd t a)).2⟩ : S32)], 0, 0, 0)
    else if (tokOf (t.extract (gapEnd t a) t.size)).2.2.2 = true then
      scanFrom t f (gapEnd t a + (tokOf (t.extract (gapEnd t a) t.size)).2.1.size) (out ++ [(⟨(tokOf (t.extract (gapEnd t a) t.size)).1, (tokOf (t.extract (gapEnd t a) t.size)).2.1, (tokOf (t.extract (gapEnd t a) t.size)).2.2.1, (placeAt t (gapEnd t a)).1, (placeAt t (gapEnd t a)).2⟩ : S32)])
    else ([], 2, (placeAt t (gapEnd t a)).1, (placeAt t (gapEnd t a)).2)

theorem scan_tells (t : ByteArray) (ht : t.size ≤ 65536) (d : Nat) : ∀ (k a : Nat) (out : List S32), a ≤ t.size → t.size - a < d → out.length + (t.size - a) ≤ t.size → d + 2 * t.size + 3 < k →
    PScan.scan_Scan.l0 k t out t (a : Int) (placeAt t a).1 (placeAt t a).2 = some (scanFrom t d a out) := by
  induction d with
  | zero => intro k a out ha hd; omega
  | succ d ih =>
    intro k a out ha hd ho hk
    obtain ⟨k, rfl⟩ : ∃ m, k = m + 1 := ⟨k - 1, by omega⟩
    rw [PScan.scan_Scan.l0, blanks_tells t ht (t.size - a) k a ha rfl (by omega), scanFrom]
    simp only [Option.bind_some]
    have hb := gapEnd_le t a ha
    have hba : a ≤ gapEnd t a := by unfold gapEnd; omega
    generalize gapEnd t a = b at hb hba ⊢
    by_cases e : b = t.size
    · rw [if_pos (by omega), if_pos e, if_pos (by omega)]
    · rw [if_neg (by omega), if_neg e, PScan.scan_scanner_token.f, if_pos ⟨by omega, by omega, by omega⟩, Int.toNat_natCast]
      simp only [Option.bind_some]
      have hz : (t.extract b t.size).size = t.size - b := by rw [ByteArray.size_extract]; omega
      have hok := tokOf_ok (t.extract b t.size) (by omega)
      generalize tokOf (t.extract b t.size) = q at hok ⊢
      by_cases hq : q.2.2.2 = true
      · obtain ⟨h1, h2, _, _⟩ := hok hq
        rw [if_pos hq, if_pos hq, if_pos (by omega), skip_eq t ht b q.2.1.size k (by omega) (by omega)]
        simp only [Option.bind_some]
        exact ih k (b + q.2.1.size) _ (by omega) (by omega) (by rw [List.length_append]; simp; omega) (by omega)
      · rw [if_neg hq, if_neg hq]

/-- What Scan answers. -/
def scanOf (t : ByteArray) : List S32 × Int × Int × Int := if (t.size : Int) > 65536 then ([], 9, 0, 0) else scanFrom t (t.size + 1) 0 []
theorem scan_eq (t : ByteArray) (k : Nat) (hk : 3 * t.size + 4 < k) : PScan.scan_Scan.f k t = some (scanOf t) := by
  unfold PScan.scan_Scan.f scanOf
  by_cases h : (t.size : Int) > 65536
  · rw [if_pos h, if_pos h]
  · rw [if_neg h, if_neg h]
    exact scan_tells t (by omega) (t.size + 1) k 0 [] (by omega) (by omega) (by simp) (by omega)

/-- What is scanned stands behind what was there, and ends somewhere. -/
theorem scanFrom_pre (t : ByteArray) (d : Nat) : ∀ (a : Nat) (out r : List S32) (x y : Int), a ≤ t.size → t.size - a < d → scanFrom t d a out = (r, 0, x, y) → ∃ z l, r = out ++ z :: l := by
  induction d with
  | zero => intro a out r x y ha hd; omega
  | succ d ih =>
    intro a out r x y ha hd h
    rw [scanFrom] at h
    have hb := gapEnd_le t a ha
    have hba : a ≤ gapEnd t a := by unfold gapEnd; omega
    generalize gapEnd t a = b at hb hba h
    by_cases e : b = t.size
    · rw [if_pos e] at h
      simp only [Prod.mk.injEq] at h
      exact ⟨_, [], h.1.symm⟩
    · rw [if_neg e] at h
      have hz : (t.extract b t.size).size = t.size - b := by rw [ByteArray.size_extract]; omega
      have hok := tokOf_ok (t.extract b t.size) (by omega)
      generalize tokOf (t.extract b t.size) = q at hok h
      by_cases hq : q.2.2.2 = true
      · obtain ⟨h1, h2, _, _⟩ := hok hq
        rw [if_pos hq] at h
        obtain ⟨z, l, rfl⟩ := ih _ _ _ _ _ (by omega) (by omega) h
        exact ⟨_, z :: l, by rw [List.append_assoc]; rfl⟩
      · rw [if_neg hq] at h
        simp only [Prod.mk.injEq] at h
        omega
theorem scanFrom_len (t : ByteArray) (d : Nat) : ∀ (a : Nat) (out : List S32), a ≤ t.size → t.size - a < d → (scanFrom t d a out).1.length ≤ out.length + (t.size - a) + 1 := by
  induction d with
  | zero => intro a out ha hd; omega
  | succ d ih =>
    intro a out ha hd
    rw [scanFrom]
    have hb := gapEnd_le t a ha
    have hba : a ≤ gapEnd t a := by unfold gapEnd; omega
    generalize gapEnd t a = b at hb hba
    by_cases e : b = t.size
    · rw [if_pos e]; simp
    · rw [if_neg e]
      have hz : (t.extract b t.size).size = t.size - b := by rw [ByteArray.size_extract]; omega
      have hok := tokOf_ok (t.extract b t.size) (by omega)
      generalize tokOf (t.extract b t.size) = q at hok ⊢
      by_cases hq : q.2.2.2 = true
      · obtain ⟨h1, h2, _, _⟩ := hok hq
        rw [if_pos hq]
        have := ih (b + q.2.1.size) (out ++ [(⟨q.1, q.2.1, q.2.2.1, (placeAt t b).1, (placeAt t b).2⟩ : S32)]) (by omega) (by omega)
        rw [List.length_append] at this
        simp only [List.length_singleton] at this
        omega
      · rw [if_neg hq]; simp

theorem scanOf_len (t : ByteArray) : (scanOf t).1.length ≤ t.size + 1 := by
  unfold scanOf
  split
  · simp
  · have := scanFrom_len t (t.size + 1) 0 [] (by omega) (by omega)
    simp at this; exact this
end Go.Proofs.YtffeikfffmonkaaDoor
