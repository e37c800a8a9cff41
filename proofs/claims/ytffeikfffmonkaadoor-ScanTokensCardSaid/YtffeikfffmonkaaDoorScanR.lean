/- Plain laws of layer 1: what the reference's gap, Place, token come to. -/
import Derived.Test.YtffeikfffmonkaaDoorScanQ
import Derived.Test.YtffeikfffmonkaaDoorPScanx5
import Derived.Test.YtffeikfffmonkaaDoorPScanx7
import Derived.Test.YtffeikfffmonkaaDoorPScanx8
namespace Go.Proofs.YtffeikfffmonkaaDoor
open Go Go.RowKit Go.Lib Go.Proofs.YtffeikfffmonkaaDoorW.PrintWords Go.Proofs.YtffeikfffmonkaaDoorW.PrintMore
set_option maxRecDepth 100000
set_option linter.unusedSimpArgs false
set_option linter.unusedVariables false

theorem blankB_iff (b : Int) : blankB b = true ↔ b = 32 ∨ b = 9 ∨ b = 10 ∨ b = 13 := by simp [blankB]

theorem gap_l0 (s : ByteArray) (hs : s.size ≤ 65536) (n k : Nat) (h : n < s.size) (c : UInt8) (hb : bt s (n : Int) = (c.toNat : Int)) :
    PScan.penduleref01_gap.l0 (k + 1) s (n : Int) = PScan.penduleref01_gap.j1 k s (n : Int) (blankB (c.toNat : Int)) := by
  rw [PScan.penduleref01_gap.l0, if_pos (by omega), if_pos (by omega), hb]
  by_cases h1 : (c.toNat : Int) = 32
  · rw [if_pos h1, h1]; rfl
  · rw [if_neg h1]
    by_cases h2 : (c.toNat : Int) = 9
    · rw [if_pos h2, h2]; rfl
    · rw [if_neg h2]
      by_cases h3 : (c.toNat : Int) = 10
      · rw [if_pos h3, h3]; rfl
      · rw [if_neg h3]
        have e : blankB (c.toNat : Int) = ((c.toNat : Int) == 13) := by unfold blankB; rw [beq_eq_false_iff_ne.mpr h1, beq_eq_false_iff_ne.mpr h2, beq_eq_false_iff_ne.mpr h3]; rfl
        rw [e]

theorem gap_tells (s : ByteArray) (hs : s.size ≤ 65536) (d : Nat) : ∀ (n k : Nat), n ≤ s.size → s.size - n = d →
    (5 * d + 3 < k → PScan.penduleref01_gap.l0 k s (n : Int) = some ((n + gapL false (rest s n) : Nat) : Int)) ∧
    (5 * d + 4 < k → PScan.penduleref01_gap.l1 k s (n : Int) = some ((n + gapL true (rest s n) : Nat) : Int)) := by
  induction d with
  | zero =>
    intro n k hn hd
    have hr : rest s n = [] := List.eq_nil_of_length_eq_zero (by rw [rest_len]; exact hd)
    have h0 : ∀ k, 0 < k → PScan.penduleref01_gap.l0 k s (n : Int) = some (n : Int) := by
      intro k hk
      obtain ⟨k, rfl⟩ : ∃ m, k = m + 1 := ⟨k - 1, by omega⟩
      rw [PScan.penduleref01_gap.l0, if_neg (by omega)]
    refine ⟨fun hk => ?_, fun hk => ?_⟩
    · rw [h0 k (by omega), hr]; rfl
    · obtain ⟨k, rfl⟩ : ∃ m, k = m + 1 := ⟨k - 1, by omega⟩
      rw [PScan.penduleref01_gap.l1, if_neg (by omega), h0 k (by omega), hr]; rfl
  | succ d ih =>
    intro n k hn hd
    obtain ⟨c, hc, hb⟩ := rest_cons s n (by omega)
    have wn := wrap_add (i := (n : Int)) (by omega) (by omega)
    have cn : ((n + 1 : Nat) : Int) = (n : Int) + 1 := by omega
    have hfalse : ∀ k, 5 * (d + 1) + 3 < k → PScan.penduleref01_gap.l0 k s (n : Int) = some ((n + gapL false (rest s n) : Nat) : Int) := by
      intro k hk
      obtain ⟨k, rfl⟩ : ∃ m, k = m + 3 := ⟨k - 3, by omega⟩
      rw [gap_l0 s hs n _ (by omega) c hb, PScan.penduleref01_gap.j1, hc, gapL]
      by_cases hbl : blankB (c.toNat : Int) = true
      · rw [if_pos hbl, if_pos hbl, wn, ← cn, (ih (n + 1) (k + 1) (by omega) (by omega)).1 (by omega)]
        congr 2; omega
      · rw [if_neg hbl, if_neg hbl, if_pos (by omega), if_pos (by omega), hb]
        have hj2 : ∀ (b : Bool), PScan.penduleref01_gap.j2 (k + 1) s (n : Int) b = if b = true then PScan.penduleref01_gap.l1 k s (n : Int) else some (n : Int) := fun b => by rw [PScan.penduleref01_gap.j2]
        by_cases h45 : c.toNat = 45
        · rw [if_pos (show (c.toNat : Int) = 45 by omega), wn]
          by_cases hlt : n + 1 < s.size
          · obtain ⟨c2, hc2, hb2⟩ := rest_cons s (n + 1) hlt
            rw [cn] at hb2
            rw [if_pos (by omega), if_pos (by omega), hb2, hj2, hc2]
            simp only [List.head?_cons, Option.map_some, Option.some.injEq]
            by_cases h2 : c2.toNat = 45
            · have h45i : (c.toNat : Int) = 45 := by omega
              rw [if_pos (by rw [beq_iff_eq]; omega), if_pos ⟨h45, h2⟩]
              obtain ⟨k, rfl⟩ : ∃ m, k = m + 1 := ⟨k - 1, by omega⟩
              rw [PScan.penduleref01_gap.l1, if_pos (by omega), if_pos (by omega), hb, if_neg (by omega), wn, ← cn, (ih (n + 1) k (by omega) (by omega)).2 (by omega), hc2]
              congr 2; omega
            · rw [if_neg (by rw [beq_iff_eq]; omega), if_neg (by simp [h2])]; rfl
          · have hr : rest s (n + 1) = [] := List.eq_nil_of_length_eq_zero (by rw [rest_len]; omega)
            rw [if_neg (by omega), hj2, hr]; simp
        · rw [if_neg (show ¬ (c.toNat : Int) = 45 by omega), hj2, if_neg (by simp), if_neg (fun hh => h45 hh.1)]; rfl
    refine ⟨hfalse k, fun hk => ?_⟩
    obtain ⟨k, rfl⟩ : ∃ m, k = m + 1 := ⟨k - 1, by omega⟩
    rw [PScan.penduleref01_gap.l1, if_pos (by omega), if_pos (by omega), hb]
    by_cases h10 : c.toNat = 10
    · rw [if_pos (by omega), hfalse k (by omega), hc, gapL, gapL, if_pos h10, if_pos (by rw [h10]; rfl)]
    · rw [if_neg (by omega), wn, ← cn, (ih (n + 1) k (by omega) (by omega)).2 (by omega), hc, gapL, if_neg h10]
      congr 2; omega
theorem gap_eq (s : ByteArray) (hs : s.size ≤ 65536) (k : Nat) (hk : 5 * s.size + 3 < k) : PScan.penduleref01_gap.f k s = some ((gapL false s.data.toList : Nat) : Int) := by
  have := (gap_tells s hs s.size 0 k (by omega) (by omega)).1 hk
  simpa [PScan.penduleref01_gap.f, rest] using this

theorem place_tells (t : ByteArray) (ht : t.size ≤ 65536) (a : Nat) (ha : a ≤ t.size) (d : Nat) : ∀ (k i : Nat), i ≤ a → a - i = d → d < k →
    PScan.penduleref01_Place.l0 k t (a : Int) (placeAt t i).1 (placeAt t i).2 (i : Int) = some (placeAt t a) := by
  induction d with
  | zero =>
    intro k i hi hd hk
    obtain ⟨k, rfl⟩ : ∃ m, k = m + 1 := ⟨k - 1, by omega⟩
    obtain rfl : i = a := by omega
    have l1 : ¬ (i : Int) < (i : Int) := by omega
    rw [PScan.penduleref01_Place.l0, if_neg l1]
  | succ d ih =>
    intro k i hi hd hk
    obtain ⟨k, rfl⟩ : ∃ m, k = m + 1 := ⟨k - 1, by omega⟩
    obtain ⟨c, hc, hb⟩ := rest_cons t i (by omega)
    have hrec := ih k (i + 1) (by omega) (by omega) (by omega)
    have l1 : (i : Int) < (a : Int) := by omega
    have l2 : (i : Int) < (t.size : Int) := by omega
    have l3 : (0 : Int) ≤ (i : Int) := by omega
    have cc : ((i + 1 : Nat) : Int) = (i : Int) + 1 := by omega
    have hbd := placeAt_bound t i
    have b1 : (0 : Int) ≤ (placeAt t i).1 ∧ (placeAt t i).1 < 9223372036854775807 := by omega
    have b2 : (0 : Int) ≤ (placeAt t i).2 ∧ (placeAt t i).2 < 9223372036854775807 := by omega
    have b3 : (i : Int) < 9223372036854775807 := by omega
    have wi := wrap_add l3 b3
    have w1 := wrap_add b1.1 b1.2
    have w2 := wrap_add b2.1 b2.2
    have hp : placeAt t (i + 1) = if c.toNat = 10 then ((placeAt t i).1 + 1, 1) else ((placeAt t i).1, (placeAt t i).2 + 1) := by
      rw [placeAt_add, hc]; rfl
    rw [cc] at hrec
    by_cases h : c.toNat = 10
    · have h' : (c.toNat : Int) = 10 := by rw [h]; rfl
      rw [if_pos h] at hp; rw [hp] at hrec
      rw [PScan.penduleref01_Place.l0, if_pos l1, if_pos l3, if_pos l2, hb, if_pos h', wi, w1]; exact hrec
    · have h' : ¬ (c.toNat : Int) = 10 := fun e => h (Int.ofNat.inj e)
      rw [if_neg h] at hp; rw [hp] at hrec
      rw [PScan.penduleref01_Place.l0, if_pos l1, if_pos l3, if_pos l2, hb, if_neg h', wi, w2]; exact hrec
theorem place_eq (t : ByteArray) (ht : t.size ≤ 65536) (a k : Nat) (ha : a ≤ t.size) (hk : a < k) : PScan.penduleref01_Place.f k t (a : Int) = some (placeAt t a) := by
  have := place_tells t ht a ha a k 0 (by omega) (by omega) hk
  simpa [PScan.penduleref01_Place.f, placeAt, adv] using this
end Go.Proofs.YtffeikfffmonkaaDoor
