/- Plain law: the places that Scan tells are where its tokens stand. -/
import Derived.Test.YtffeikfffmonkaaDoorScanS
import Derived.Test.YtffeikfffmonkaaDoorPScanx10
namespace Go.Proofs.YtffeikfffmonkaaDoor
open Go Go.RowKit Go.Lib Go.Proofs.YtffeikfffmonkaaDoorW.PrintWords Go.Proofs.YtffeikfffmonkaaDoorW.PrintMore PScan
set_option maxRecDepth 100000
set_option linter.unusedSimpArgs false
set_option linter.unusedVariables false

def before (p q : Int × Int) : Prop := p.1 < q.1 ∨ (p.1 = q.1 ∧ p.2 < q.2)
theorem adv_before : ∀ (l : List UInt8) (c : UInt8) (p : Int × Int), before p (adv (c :: l) p)
  | [], c, p => by
    rw [adv, adv]; unfold before
    by_cases h : c.toNat = 10
    · rw [if_pos h]; left; simp; omega
    · rw [if_neg h]; right; simp; omega
  | d :: l, c, p => by
    have h2 := adv_before l d (if c.toNat = 10 then (p.1 + 1, 1) else (p.1, p.2 + 1))
    rw [adv]
    generalize adv (d :: l) (if c.toNat = 10 then (p.1 + 1, 1) else (p.1, p.2 + 1)) = q at h2 ⊢
    unfold before at h2 ⊢
    by_cases h : c.toNat = 10
    · rw [if_pos h] at h2; simp at h2; omega
    · rw [if_neg h] at h2; simp at h2; omega
theorem placeAt_before (t : ByteArray) (j b : Nat) (h : j < b) (hb : b ≤ t.size) : before (placeAt t j) (placeAt t b) := by
  obtain ⟨n, rfl⟩ : ∃ n, b = j + (n + 1) := ⟨b - j - 1, by omega⟩
  obtain ⟨c, hc, _⟩ := rest_cons t j (by omega)
  rw [placeAt_add, hc, List.take_succ_cons]
  exact adv_before _ _ _
theorem adv_plain : ∀ (l : List UInt8) (p : Int × Int), (∀ c ∈ l, c.toNat ≠ 10) → adv l p = (p.1, p.2 + l.length)
  | [], p, _ => by simp [adv]
  | c :: l, p, h => by
    rw [adv, if_neg (h c (by simp)), adv_plain l _ (fun d hd => h d (by simp [hd]))]
    simp; omega

theorem wrap_id {i j : Int} (h : i = j) (h0 : -9223372036854775808 ≤ j) (h1 : j < 9223372036854775808) : wrap64 i = j := by subst h; unfold wrap64; omega

theorem rd_at (out l : List S32) (z : S32) (i : Nat) (hi : i = out.length) : rd_T32 (out ++ z :: l) (i : Int) = z := by
  subst hi
  unfold rd_T32
  simp

theorem walk_tells (t : ByteArray) (ht : t.size ≤ 65536) (r : List S32) (i : Nat) (hi : i < r.length) (b : Nat) (hb : b ≤ t.size) (h3 : (rd_T32 r (i : Int)).f3 = (placeAt t b).1) (h4 : (rd_T32 r (i : Int)).f4 = (placeAt t b).2) (k : Nat) (d : Nat) : ∀ (j : Nat), j ≤ b → b - j = d →
    PScan.pendulelaw01_ScanPlaces.l1 (k + 2 * d + 1) t r (j : Int) (placeAt t j).1 (placeAt t j).2 (i : Int) = PScan.pendulelaw01_ScanPlaces.j2 k t r (b : Int) (placeAt t b).1 (placeAt t b).2 (i : Int) false := by
  have i0 : (0 : Int) ≤ (i : Int) := by omega
  have i1 : (i : Int) < (r.length : Int) := by omega
  induction d with
  | zero =>
    intro j hj hd
    obtain rfl : j = b := by omega
    rw [show k + 2 * 0 + 1 = k + 1 from rfl, PScan.pendulelaw01_ScanPlaces.l1]
    by_cases hlt : (j : Int) < (t.size : Int)
    · have n1 : ¬ (placeAt t j).1 < (placeAt t j).1 := by omega
      have n2 : decide ((placeAt t j).2 < (placeAt t j).2) = false := decide_eq_false (by omega)
      rw [if_pos hlt, if_pos i0, if_pos i1, h3, h4, if_neg n1, if_pos rfl, n2]
    · rw [if_neg hlt]
  | succ d ih =>
    intro j hj hd
    have hbf := placeAt_before t j b (by omega) hb
    obtain ⟨c, hc, hbt⟩ := rest_cons t j (by omega)
    have hrec := ih (j + 1) (by omega) (by omega)
    have l1 : (j : Int) < (t.size : Int) := by omega
    have l2 : (0 : Int) ≤ (j : Int) := by omega
    have cc : ((j + 1 : Nat) : Int) = (j : Int) + 1 := by omega
    have hbd := placeAt_bound t j
    have b1 : (0 : Int) ≤ (placeAt t j).1 ∧ (placeAt t j).1 < 9223372036854775807 := by omega
    have b2 : (0 : Int) ≤ (placeAt t j).2 ∧ (placeAt t j).2 < 9223372036854775807 := by omega
    have b3 : (j : Int) < 9223372036854775807 := by omega
    have wj := wrap_add l2 b3
    have w1 := wrap_add b1.1 b1.2
    have w2 := wrap_add b2.1 b2.2
    have hp : placeAt t (j + 1) = if c.toNat = 10 then ((placeAt t j).1 + 1, 1) else ((placeAt t j).1, (placeAt t j).2 + 1) := by
      rw [placeAt_add, hc]; rfl
    rw [cc] at hrec
    have hj2 : PScan.pendulelaw01_ScanPlaces.j2 ((k + 2 * d + 1) + 1) t r (j : Int) (placeAt t j).1 (placeAt t j).2 (i : Int) true = PScan.pendulelaw01_ScanPlaces.j2 k t r (b : Int) (placeAt t b).1 (placeAt t b).2 (i : Int) false := by
      rw [PScan.pendulelaw01_ScanPlaces.j2, if_pos rfl, if_pos l2, if_pos l1, hbt]
      by_cases h : c.toNat = 10
      · have h' : (c.toNat : Int) = 10 := by rw [h]; rfl
        rw [if_pos h] at hp; rw [hp] at hrec
        rw [if_pos h', wj, w1]; exact hrec
      · have h' : ¬ (c.toNat : Int) = 10 := fun e => h (Int.ofNat.inj e)
        rw [if_neg h] at hp; rw [hp] at hrec
        rw [if_neg h', wj, w2]; exact hrec
    rw [show k + 2 * (d + 1) + 1 = ((k + 2 * d + 1) + 1) + 1 from rfl, PScan.pendulelaw01_ScanPlaces.l1, if_pos l1, if_pos i0, if_pos i1, h3, h4]
    unfold before at hbf
    by_cases n1 : (placeAt t j).1 < (placeAt t b).1
    · rw [if_pos n1]; exact hj2
    · rcases hbf with hbf | ⟨n2, n4⟩
      · exact absurd hbf n1
      have n3 : decide ((placeAt t j).2 < (placeAt t b).2) = true := decide_eq_true n4
      rw [if_neg n1, if_pos n2, n3]; exact hj2

theorem extract_head (t : ByteArray) (b n : Nat) : (t.extract b (b + n)).data.toList = (rest t b).take n := by
  rw [Lib.extract_eq]
  show ((t.data.toList.drop b).take (b + n - b)).toArray.toList = _
  rw [show b + n - b = n by omega]; rfl
theorem rest_head (t : ByteArray) (b n : Nat) : (headOf (t.extract b t.size) n).data.toList = (rest t b).take n := by
  rw [headOf_data, extract_rest]

theorem scanFrom_len (t : ByteArray) (d : Nat) : ∀ (a : Nat) (out : List S32), a ≤ t.size → t.size - a < d → (scanFrom t d a out).1.length ≤ out.length + (t.size - a) + 1 := by
  induction d with
  | zero => intro a out ha hd; omega
  | succ d ih =>
    intro a out ha hd
    rw [scanFrom]
    have hb := gapEnd_le t a ha
    have hba : a ≤ gapEnd t a := by unfold gapEnd; omega
    generalize gapEnd t a = b at hb hba
    by_cases e : b = t.size
    · rw [if_pos e]; simp
    · rw [if_neg e]
      have hz : (t.extract b t.size).size = t.size - b := by rw [ByteArray.size_extract]; omega
      have hok := tokOf_ok (t.extract b t.size) (by omega)
      generalize tokOf (t.extract b t.size) = q at hok ⊢
      by_cases hq : q.2.2.2 = true
      · obtain ⟨h1, h2, _, _⟩ := hok hq
        rw [if_pos hq]
        have := ih (b + q.2.1.size) (out ++ [(⟨q.1, q.2.1, q.2.2.1, (placeAt t b).1, (placeAt t b).2⟩ : S32)]) (by omega) (by omega)
        rw [List.length_append] at this
        simp only [List.length_singleton] at this
        omega
      · rw [if_neg hq]; simp

theorem places_tells (t : ByteArray) (ht : t.size ≤ 65536) (d : Nat) : ∀ (a : Nat) (out r : List S32) (x y : Int), a ≤ t.size → t.size - a < d → scanFrom t d a out = (r, 0, x, y) →
    out.length + (t.size - a) ≤ t.size → ∃ k, PScan.pendulelaw01_ScanPlaces.l0 k t r (a : Int) (placeAt t a).1 (placeAt t a).2 (out.length : Int) = some true := by
  induction d with
  | zero => intro a out r x y ha hd; omega
  | succ d ih =>
    intro a out r x y ha hd h ho
    rw [scanFrom] at h
    have hb := gapEnd_le t a ha
    have hba : a ≤ gapEnd t a := by unfold gapEnd; omega
    generalize gapEnd t a = b at hb hba h
    have hbd := placeAt_bound t b
    by_cases e : b = t.size
    · rw [if_pos e] at h
      simp only [Prod.mk.injEq] at h
      obtain ⟨hr, _⟩ := h
      have hi : out.length < r.length := by rw [← hr]; simp
      have hrd : rd_T32 r (out.length : Int) = ⟨6, ⟨#[]⟩, 0, (placeAt t b).1, (placeAt t b).2⟩ := by rw [← hr]; exact rd_at out [] _ _ rfl
      have hl : (r.length : Int) = (out.length : Int) + 1 := by rw [← hr]; simp
      refine ⟨((1 + 1) + 2 * (b - a) + 1) + 1, ?_⟩
      have i0 : (0 : Int) ≤ (out.length : Int) := by omega
      have i1 : (out.length : Int) < (r.length : Int) := by omega
      have n1 : ¬ (b : Int) > (t.size : Int) := by omega
      have n2 : (0 : Int) ≤ (b : Int) := by omega
      have n3 : (b : Int) ≤ (b : Int) := by omega
      have n4 : (b : Int) ≤ (t.size : Int) := by omega
      have n6 : ¬ (r.length : Int) < (r.length : Int) := by omega
      have v1 : (-9223372036854775808 : Int) ≤ (b : Int) ∧ (b : Int) < 9223372036854775808 := by omega
      have v2 : (-9223372036854775808 : Int) ≤ (placeAt t b).2 ∧ (placeAt t b).2 < 9223372036854775808 := by omega
      have v3 : (r.length : Int) - 1 = (out.length : Int) := by omega
      have v4 : (-9223372036854775808 : Int) ≤ (out.length : Int) ∧ (out.length : Int) < 9223372036854775808 := by omega
      have v5 : (-9223372036854775808 : Int) ≤ (r.length : Int) ∧ (r.length : Int) < 9223372036854775808 := by omega
      have ww : wrap64 ((b : Int) + 0) = (b : Int) := wrap_id (Int.add_zero _) v1.1 v1.2
      have w2 : wrap64 ((placeAt t b).2 + 0) = (placeAt t b).2 := wrap_id (Int.add_zero _) v2.1 v2.2
      have w3 : wrap64 ((r.length : Int) - 1) = (out.length : Int) := wrap_id v3 v4.1 v4.2
      have w4 : wrap64 ((out.length : Int) + 1) = (r.length : Int) := wrap_id hl.symm v5.1 v5.2
      have hz : ((⟨#[]⟩ : ByteArray).size : Int) = 0 := rfl
      have n5 : (t.extract (b : Int).toNat (b : Int).toNat).toList = (⟨#[]⟩ : ByteArray).toList := by
        have : t.extract (b : Int).toNat (b : Int).toNat = ⟨#[]⟩ := data_inj (by
          rw [Int.toNat_natCast]
          have := extract_head t b 0
          rw [Nat.add_zero] at this; rw [this]; rfl)
        rw [this]
      rw [PScan.pendulelaw01_ScanPlaces.l0, if_pos i1, walk_tells t ht r out.length hi b hb (by rw [hrd]) (by rw [hrd]) (1 + 1) (b - a) a hba rfl,
        PScan.pendulelaw01_ScanPlaces.j2, if_neg (by decide), if_pos i0, if_pos i1, hrd]
      simp only [hz, ww, w2, w3, w4]
      rw [if_pos trivial, if_pos trivial, if_neg n1, if_pos n2, if_pos n3, if_pos n4, if_pos n5, if_neg (by simp), PScan.pendulelaw01_ScanPlaces.l0, if_neg n6, e]
      simp
    · rw [if_neg e] at h
      have hsz : (t.extract b t.size).size = t.size - b := by rw [ByteArray.size_extract]; omega
      have hok := tokOf_ok (t.extract b t.size) (by omega)
      generalize tokOf (t.extract b t.size) = q at hok h
      by_cases hq : q.2.2.2 = true
      · obtain ⟨h1, h2, hhd, hnl⟩ := hok hq
        rw [if_pos hq] at h
        have hpre := scanFrom_pre t d _ _ _ _ _ (by omega) (by omega) h
        obtain ⟨k, hk⟩ := ih (b + q.2.1.size) _ _ _ _ (by omega) (by omega) h (by rw [List.length_append]; simp; omega)
        obtain ⟨z, l, hr⟩ := hpre
        rw [List.append_assoc, List.singleton_append] at hr
        have hi : out.length < r.length := by rw [hr]; simp
        have hlen := scanFrom_len t d _ (out ++ [(⟨q.1, q.2.1, q.2.2.1, (placeAt t b).1, (placeAt t b).2⟩ : S32)]) (show b + q.2.1.size ≤ t.size by omega) (by omega)
        rw [h, List.length_append] at hlen
        simp only [List.length_singleton] at hlen
        have hi2 : out.length + 1 < r.length := by rw [hr]; simp
        have hrd := rd_at out (z :: l) (⟨q.1, q.2.1, q.2.2.1, (placeAt t b).1, (placeAt t b).2⟩ : S32) out.length rfl
        rw [← hr] at hrd
        have i0 : (0 : Int) ≤ (out.length : Int) := by omega
        have i1 : (out.length : Int) < (r.length : Int) := by omega
        have n1 : ¬ ((b + q.2.1.size : Nat) : Int) > (t.size : Int) := by omega
        have n2 : (0 : Int) ≤ (b : Int) := by omega
        have n3 : (b : Int) ≤ ((b + q.2.1.size : Nat) : Int) := by omega
        have n4 : ((b + q.2.1.size : Nat) : Int) ≤ (t.size : Int) := by omega
        have n6 : ((q.2.1.size : Int) == 0) = false := beq_eq_false_iff_ne.mpr (by omega)
        have n7 : ((out.length : Int) == wrap64 ((r.length : Int) - 1)) = false := by
          refine beq_eq_false_iff_ne.mpr ?_
          have hob : out.length ≤ 65536 := by omega
          have hii : (out.length : Int) + 1 < (r.length : Int) := by omega
          have hij : (r.length : Int) ≤ 131073 := by omega
          clear hrd hr hk h hd hok hhd hlen hi hi2
          generalize (r.length : Int) = rl at hii hij ⊢
          unfold wrap64
          omega
        have v1 : (b : Int) + (q.2.1.size : Int) = ((b + q.2.1.size : Nat) : Int) := by omega
        have v2 : (-9223372036854775808 : Int) ≤ ((b + q.2.1.size : Nat) : Int) ∧ ((b + q.2.1.size : Nat) : Int) < 9223372036854775808 := by omega
        have v3 : (-9223372036854775808 : Int) ≤ (placeAt t b).2 + (q.2.1.size : Int) ∧ (placeAt t b).2 + (q.2.1.size : Int) < 9223372036854775808 := by omega
        have v4 : (out.length : Int) + 1 = ((out.length + 1 : Nat) : Int) := by omega
        have v5 : (-9223372036854775808 : Int) ≤ ((out.length + 1 : Nat) : Int) ∧ ((out.length + 1 : Nat) : Int) < 9223372036854775808 := by omega
        have ww : wrap64 ((b : Int) + (q.2.1.size : Int)) = ((b + q.2.1.size : Nat) : Int) := wrap_id v1 v2.1 v2.2
        have w2 : wrap64 ((placeAt t b).2 + (q.2.1.size : Int)) = (placeAt t b).2 + (q.2.1.size : Int) := wrap_id rfl v3.1 v3.2
        have w4 : wrap64 ((out.length : Int) + 1) = ((out.length + 1 : Nat) : Int) := wrap_id v4 v5.1 v5.2
        have hd0 : q.2.1.data.toList = (rest t b).take q.2.1.size := by rw [← rest_head, ← hhd]
        have hpl : placeAt t (b + q.2.1.size) = ((placeAt t b).1, (placeAt t b).2 + (q.2.1.size : Int)) := by
          rw [placeAt_add, ← hd0, adv_plain _ _ hnl, data_length]
        have n5 : (t.extract (b : Int).toNat ((b + q.2.1.size : Nat) : Int).toNat).toList = q.2.1.toList := by
          have : t.extract (b : Int).toNat ((b + q.2.1.size : Nat) : Int).toNat = q.2.1 := data_inj (by
            rw [Int.toNat_natCast, Int.toNat_natCast, extract_head, hd0])
          rw [this]
        refine ⟨((k + 1) + 2 * (b - a) + 1) + 1, ?_⟩
        rw [PScan.pendulelaw01_ScanPlaces.l0, if_pos i1, walk_tells t ht r out.length hi b hb (by rw [hrd]) (by rw [hrd]) (k + 1) (b - a) a hba rfl,
          PScan.pendulelaw01_ScanPlaces.j2, if_neg (by decide), if_pos i0, if_pos i1, hrd]
        simp only [ww, w2, w4]
        rw [if_pos trivial, if_pos trivial, if_neg n1, if_pos n2, if_pos n3, if_pos n4, if_pos n5, n6, n7, if_neg (by decide)]
        rw [hpl, List.length_append] at hk
        exact hk
      · rw [if_neg hq] at h
        simp only [Prod.mk.injEq] at h
        omega

theorem scanFrom_ends (t : ByteArray) (d : Nat) : ∀ (a : Nat) (out : List S32), (scanFrom t d a out).2.1 = 0 ∨ ((scanFrom t d a out).2.1 = 2 ∧ 1 ≤ (scanFrom t d a out).2.2.1 ∧ 1 ≤ (scanFrom t d a out).2.2.2) := by
  induction d with
  | zero => intro a out; left; rfl
  | succ d ih =>
    intro a out
    rw [scanFrom]
    have hbd := placeAt_bound t (gapEnd t a)
    split
    · left; rfl
    · split
      · exact ih _ _
      · right; exact ⟨rfl, hbd.1, hbd.2.1⟩

theorem places_more (t : ByteArray) (r : List S32) (a b c i : Int) (k n : Nat) (h : PScan.pendulelaw01_ScanPlaces.l0 k t r a b c i = some true) : PScan.pendulelaw01_ScanPlaces.l0 (k + n) t r a b c i = some true := by
  induction n with
  | zero => exact h
  | succ n ih => exact (PScan.pendulelaw01_ScanPlaces.mono_l (k + n)).1 _ _ _ _ _ _ _ ih

theorem purePlaces : PScan.pendulelaw01_ScanPlaces.Pure := by
  intro s hs
  by_cases hz : (s.size : Int) > 65536
  · refine ⟨3 * s.size + 5, ?_⟩
    unfold PScan.pendulelaw01_ScanPlaces.f
    rw [scan_eq s _ (by omega)]
    have : scanOf s = ([], 9, 0, 0) := by unfold scanOf; rw [if_pos hz]
    rw [this]
    simp [PScan.pendulelaw01_lives.f]
  · have ho : scanOf s = scanFrom s (s.size + 1) 0 [] := by unfold scanOf; rw [if_neg hz]
    have he := scanFrom_ends s (s.size + 1) 0 []
    have hp := places_tells s (by omega) (s.size + 1) 0 []
    generalize scanFrom s (s.size + 1) 0 [] = q at ho he hp
    obtain ⟨r, f, x, y⟩ := q
    rcases he with he | ⟨he, h1, h2⟩
    · simp only at he; subst he
      obtain ⟨k, hk⟩ := hp r x y (by omega) (by omega) rfl (by simp)
      refine ⟨k + (3 * s.size + 5), ?_⟩
      unfold PScan.pendulelaw01_ScanPlaces.f
      rw [scan_eq s _ (by omega), ho]
      simp only [PScan.pendulelaw01_lives.f, Option.bind_some, if_true]
      exact places_more _ _ _ _ _ _ _ _ hk
    · simp only at he h1 h2; subst he
      refine ⟨3 * s.size + 5, ?_⟩
      unfold PScan.pendulelaw01_ScanPlaces.f
      rw [scan_eq s _ (by omega), ho]
      have c1 : x > 0 := by omega
      have c2 : y > 0 := by omega
      simp [PScan.pendulelaw01_lives.f, c1, c2]
end Go.Proofs.YtffeikfffmonkaaDoor
