/- Plain laws of layer 1: gaps, places, what skip and blanks come to. -/
import Derived.Test.YtffeikfffmonkaaDoorScanH
import Derived.Test.YtffeikfffmonkaaDoorScanP
namespace Go.Proofs.YtffeikfffmonkaaDoor
open Go Go.RowKit Go.Lib Go.Proofs.YtffeikfffmonkaaDoorW.PrintWords Go.Proofs.YtffeikfffmonkaaDoorW.PrintMore
set_option maxRecDepth 100000
set_option linter.unusedSimpArgs false
set_option linter.unusedVariables false

/-! ### Bytes as a list -/
def rest (t : ByteArray) (a : Nat) : List UInt8 := t.data.toList.drop a
theorem extract_rest (t : ByteArray) (a : Nat) : (t.extract a t.size).data.toList = rest t a := by
  rw [Lib.extract_eq]
  show ((t.data.toList.drop a).take (t.size - a)).toArray.toList = _
  rw [List.take_of_length_le (by rw [List.length_drop, data_length]; exact Nat.le_refl _)]; rfl
theorem rest_len (t : ByteArray) (a : Nat) : (rest t a).length = t.size - a := by unfold rest; rw [List.length_drop, data_length]
theorem rest_rest (t : ByteArray) (a n : Nat) : (rest t a).drop n = rest t (a + n) := by unfold rest; rw [List.drop_drop]
theorem rest_cons (t : ByteArray) (a : Nat) (h : a < t.size) : ∃ c, rest t a = c :: rest t (a + 1) ∧ bt t (a : Int) = (c.toNat : Int) := by
  have hl : a < t.data.toList.length := by rw [data_length]; exact h
  exact ⟨t.data.toList[a], List.drop_eq_getElem_cons hl, bt_get t a hl⟩

/-- How many bytes of blanks and notes a text begins with; note: it stands in a note. -/
def gapL : Bool → List UInt8 → Nat
  | _, [] => 0
  | false, c :: r => if blankB (c.toNat : Int) then 1 + gapL false r else if c.toNat = 45 ∧ (r.head?.map (·.toNat)) = some 45 then 1 + gapL true r else 0
  | true, c :: r => if c.toNat = 10 then 1 + gapL false r else 1 + gapL true r

theorem gapL_le : ∀ (b : Bool) (l : List UInt8), gapL b l ≤ l.length
  | _, [] => by simp [gapL]
  | false, c :: r => by
    have h1 := gapL_le false r
    have h2 := gapL_le true r
    unfold gapL; simp only [List.length_cons]
    split
    · omega
    · split <;> omega
  | true, c :: r => by
    have h1 := gapL_le false r
    have h2 := gapL_le true r
    unfold gapL; simp only [List.length_cons]
    split <;> omega

theorem gapL_blanks (l : List UInt8) : gapL false l = (l.takeWhile fun c => blankB (c.toNat : Int)).length + gapL false (l.drop (l.takeWhile fun c => blankB (c.toNat : Int)).length) := by
  induction l with
  | nil => simp [gapL]
  | cons c r ih =>
    by_cases h : blankB (c.toNat : Int) = true
    · simp only [List.takeWhile_cons, h, if_true, List.length_cons, List.drop_succ_cons]
      rw [gapL, if_pos h]; omega
    · simp [List.takeWhile_cons, h]

theorem gapL_note (l : List UInt8) : gapL true l = (l.takeWhile fun c => lineB (c.toNat : Int)).length + gapL false (l.drop (l.takeWhile fun c => lineB (c.toNat : Int)).length) := by
  induction l with
  | nil => simp [gapL]
  | cons c r ih =>
    by_cases h : c.toNat = 10
    · have hl : lineB (c.toNat : Int) = false := by rw [h]; rfl
      have hb : blankB (c.toNat : Int) = true := by rw [h]; rfl
      simp only [List.takeWhile_cons, hl, Bool.false_eq_true, if_false, List.length_nil, List.drop_zero, Nat.zero_add]
      rw [gapL, gapL, if_pos h, if_pos hb]
    · have hl : lineB (c.toNat : Int) = true := by unfold lineB; rw [bne_iff_ne]; omega
      simp only [List.takeWhile_cons, hl, if_true, List.length_cons, List.drop_succ_cons]
      rw [gapL, if_neg h]; omega

theorem prefix_two (l : List UInt8) : Lib.hasPrefix l [45, 45] = true ↔ ∃ c r, l = c :: r ∧ c.toNat = 45 ∧ (r.head?.map (·.toNat)) = some 45 := by
  unfold Lib.hasPrefix
  constructor
  · intro h
    obtain ⟨x, rfl⟩ := List.isPrefixOf_iff_prefix.mp h
    exact ⟨45, 45 :: x, rfl, rfl, rfl⟩
  · rintro ⟨c, r, rfl, hc, hr⟩
    cases r with
    | nil => simp at hr
    | cons d r =>
      simp at hr
      have e1 : c = 45 := UInt8.toNat_inj.mp (by simpa using hc)
      have e2 : d = 45 := UInt8.toNat_inj.mp (by simpa using hr)
      subst e1 e2
      simp [List.isPrefixOf]

theorem spanN_list (p : Int → Bool) (s : ByteArray) : spanN p s = (s.data.toList.takeWhile fun c => p (c.toNat : Int)).length := rfl

/-- A step of blanks: it is none just where there is no gap. -/
theorem gap_step (s : ByteArray) : (gapStep s = 0 → gapL false s.data.toList = 0) ∧ gapL false s.data.toList = gapStep s + gapL false (s.data.toList.drop (gapStep s)) := by
  have hb := gapL_blanks s.data.toList
  rw [← spanN_list] at hb
  by_cases h0 : spanN blankB s = 0
  · by_cases hp : Lib.hasPrefix s.data.toList [45, 45] = true
    · have hg : gapStep s = spanN lineB s := by unfold gapStep; rw [if_pos ⟨h0, hp⟩]
      obtain ⟨c, r, hl, hc, hr⟩ := (prefix_two _).mp hp
      have hlc : lineB (c.toNat : Int) = true := by rw [hc]; rfl
      have hbc : ¬ blankB (c.toNat : Int) = true := by rw [hc]; decide
      have hs : spanN lineB s = 1 + (r.takeWhile fun c => lineB (c.toNat : Int)).length := by
        rw [spanN_list, hl]; simp only [List.takeWhile_cons, hlc, if_true, List.length_cons]; omega
      refine ⟨fun h => by omega, ?_⟩
      rw [hg, hs, hl, gapL, if_neg hbc, if_pos ⟨hc, hr⟩, gapL_note r, Nat.add_comm 1 (List.length _), List.drop_succ_cons]
      omega
    · have hg : gapStep s = spanN blankB s := by unfold gapStep; rw [if_neg (by simp [hp])]
      rw [hg, h0]
      refine ⟨fun _ => ?_, by simp⟩
      cases hl : s.data.toList with
      | nil => rfl
      | cons c r =>
        have hbc : ¬ blankB (c.toNat : Int) = true := by
          intro hh; rw [spanN_list, hl] at h0; simp [List.takeWhile_cons, hh] at h0
        rw [gapL, if_neg hbc, if_neg (fun h => hp ((prefix_two _).mpr ⟨c, r, hl, h.1, h.2⟩))]
  · have hg : gapStep s = spanN blankB s := by unfold gapStep; rw [if_neg (by simp [h0])]
    rw [hg]; exact ⟨fun h => absurd h h0, hb⟩

/-! ### Places -/
def adv : List UInt8 → Int × Int → Int × Int
  | [], p => p
  | c :: r, p => adv r (if c.toNat = 10 then (p.1 + 1, 1) else (p.1, p.2 + 1))
theorem adv_append (l m : List UInt8) : ∀ p, adv (l ++ m) p = adv m (adv l p) := by
  induction l with
  | nil => intro p; rfl
  | cons c r ih => intro p; exact ih _
def placeAt (t : ByteArray) (a : Nat) : Int × Int := adv (t.data.toList.take a) (1, 1)
theorem placeAt_add (t : ByteArray) (a n : Nat) : placeAt t (a + n) = adv ((rest t a).take n) (placeAt t a) := by
  unfold placeAt rest
  rw [List.take_add, adv_append]
theorem adv_bound (l : List UInt8) : ∀ p : Int × Int, 1 ≤ p.1 → 1 ≤ p.2 → 1 ≤ (adv l p).1 ∧ 1 ≤ (adv l p).2 ∧ (adv l p).1 ≤ p.1 + l.length ∧ (adv l p).2 ≤ p.2 + l.length := by
  induction l with
  | nil => intro p h1 h2; simp [adv]; omega
  | cons c r ih =>
    intro p h1 h2
    rw [adv]
    by_cases h : c.toNat = 10
    · rw [if_pos h]
      have := ih (p.1 + 1, 1) (by simp; omega) (by simp)
      simp only [List.length_cons] at this ⊢; omega
    · rw [if_neg h]
      have := ih (p.1, p.2 + 1) h1 (by simp; omega)
      simp only [List.length_cons] at this ⊢; omega
theorem placeAt_bound (t : ByteArray) (a : Nat) : 1 ≤ (placeAt t a).1 ∧ 1 ≤ (placeAt t a).2 ∧ (placeAt t a).1 ≤ 1 + t.size ∧ (placeAt t a).2 ≤ 1 + t.size := by
  have := adv_bound (t.data.toList.take a) (1, 1) (by omega) (by omega)
  have hl : (t.data.toList.take a).length ≤ t.size := by rw [List.length_take, data_length]; omega
  unfold placeAt; omega

/-- skip goes on by n bytes, and tells the place there. -/
theorem skip_tells (t : ByteArray) (ht : t.size ≤ 65536) (n : Nat) (hn : n ≤ 65536) (d : Nat) : ∀ (k i a : Nat), i ≤ n → n - i = d → d < k → a + (n - i) ≤ t.size →
    PScan.scan_scanner_skip.l0 k (n : Int) (i : Int) t (a : Int) (placeAt t a).1 (placeAt t a).2 = some (t, ((a + (n - i) : Nat) : Int), (placeAt t (a + (n - i))).1, (placeAt t (a + (n - i))).2) := by
  induction d with
  | zero =>
    intro k i a hi hd hk ha
    obtain ⟨k, rfl⟩ : ∃ m, k = m + 1 := ⟨k - 1, by omega⟩
    simp only [PScan.scan_scanner_skip.l0]
    rw [if_neg (by omega), show n - i = 0 by omega]; rfl
  | succ d ih =>
    intro k i a hi hd hk ha
    obtain ⟨k, rfl⟩ : ∃ m, k = m + 1 := ⟨k - 1, by omega⟩
    have l1 : (i : Int) < (n : Int) := by omega
    have l2 : (a : Int) < (t.size : Int) := by omega
    have l3 : (0 : Int) ≤ (a : Int) := by omega
    obtain ⟨c, hc, hb⟩ := rest_cons t a (by omega)
    have hrec := ih k (i + 1) (a + 1) (by omega) (by omega) (by omega) (by omega)
    rw [show a + 1 + (n - (i + 1)) = a + (n - i) by omega, show ((i + 1 : Nat) : Int) = (i : Int) + 1 by omega, show ((a + 1 : Nat) : Int) = (a : Int) + 1 by omega] at hrec
    have hbd := placeAt_bound t a
    have wi := wrap_add (i := (i : Int)) (by omega) (by omega)
    have wa := wrap_add (i := (a : Int)) (by omega) (by omega)
    have w1 := wrap_add (i := (placeAt t a).1) (by omega) (by omega)
    have w2 := wrap_add (i := (placeAt t a).2) (by omega) (by omega)
    have hp : placeAt t (a + 1) = if c.toNat = 10 then ((placeAt t a).1 + 1, 1) else ((placeAt t a).1, (placeAt t a).2 + 1) := by
      rw [placeAt_add, hc]; rfl
    by_cases h : c.toNat = 10
    · have h' : (c.toNat : Int) = 10 := by rw [h]; rfl
      rw [if_pos h] at hp
      rw [hp] at hrec
      rw [PScan.scan_scanner_skip.l0, if_pos l1, if_pos l3, if_pos l2, hb, if_pos h', wi, wa, w1]
      exact hrec
    · have h' : ¬ (c.toNat : Int) = 10 := fun e => h (Int.ofNat.inj e)
      rw [if_neg h] at hp
      rw [hp] at hrec
      rw [PScan.scan_scanner_skip.l0, if_pos l1, if_pos l3, if_pos l2, hb, if_neg h', wi, wa, w2]
      exact hrec
theorem skip_eq (t : ByteArray) (ht : t.size ≤ 65536) (a n k : Nat) (h : a + n ≤ t.size) (hk : n < k) :
    PScan.scan_scanner_skip.f k t (a : Int) (placeAt t a).1 (placeAt t a).2 (n : Int) = some (t, ((a + n : Nat) : Int), (placeAt t (a + n)).1, (placeAt t (a + n)).2) := by
  have := skip_tells t ht n (by omega) n k 0 a (by omega) (by omega) hk (by omega)
  simpa [PScan.scan_scanner_skip.f] using this

/-- Where the gap ends. -/
def gapEnd (t : ByteArray) (a : Nat) : Nat := a + gapL false (rest t a)
theorem gapEnd_le (t : ByteArray) (a : Nat) (h : a ≤ t.size) : gapEnd t a ≤ t.size := by
  have := gapL_le false (rest t a); rw [rest_len] at this; unfold gapEnd; omega

theorem blanks_tells (t : ByteArray) (ht : t.size ≤ 65536) (d : Nat) : ∀ (k a : Nat), a ≤ t.size → t.size - a = d → d + t.size + 1 < k →
    PScan.scan_scanner_blanks.f k t (a : Int) (placeAt t a).1 (placeAt t a).2 = some (t, (gapEnd t a : Int), (placeAt t (gapEnd t a)).1, (placeAt t (gapEnd t a)).2) := by
  induction d using Nat.strongRecOn with
  | _ d ih =>
    intro k a ha hd hk
    obtain ⟨k, rfl⟩ : ∃ m, k = m + 1 := ⟨k - 1, by omega⟩
    rw [PScan.scan_scanner_blanks.f, if_pos ⟨by omega, by omega, by omega⟩, Int.toNat_natCast]
    obtain ⟨h1, h2⟩ := gap_step (t.extract a t.size)
    have hle := gapStep_le (t.extract a t.size)
    rw [ByteArray.size_extract] at hle
    rw [extract_rest] at h1 h2
    generalize gapStep (t.extract a t.size) = gs at h1 h2 hle
    by_cases h0 : gs = 0
    · have he : gapEnd t a = a := by unfold gapEnd; rw [h1 h0]; rfl
      rw [if_pos h0, he]
    · rw [if_neg h0, skip_eq t ht a gs k (by omega) (by omega)]
      simp only [Option.bind_some]
      rw [rest_rest] at h2
      have he : gapEnd t (a + gs) = gapEnd t a := by unfold gapEnd; omega
      rw [← he]
      exact ih (t.size - (a + gs)) (by omega) k (a + gs) (by omega) rfl (by omega)
end Go.Proofs.YtffeikfffmonkaaDoor
