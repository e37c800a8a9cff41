/- Plain law: Scan answers what the reference answers. -/
import Derived.Test.YtffeikfffmonkaaDoorScanT
import Derived.Test.YtffeikfffmonkaaDoorPScanx9
namespace Go.Proofs.YtffeikfffmonkaaDoor
open Go Go.RowKit Go.Lib Go.Proofs.YtffeikfffmonkaaDoorW.PrintWords Go.Proofs.YtffeikfffmonkaaDoorW.PrintMore PScan
set_option maxRecDepth 100000
set_option linter.unusedSimpArgs false
set_option linter.unusedVariables false

/-! ### The reference's token -/
def numPart (t : ByteArray) : Bool := match Lib.parseIntB 64 t.data.toList with | .ok _ => (decide (t = ⟨#[48]⟩) || !(bt t 0 == 48)) | _ => false
theorem numOk_part (s t : ByteArray) : numOk s t = (numPart t && decide (spanN innerB s = t.size)) := by
  unfold numOk numPart
  cases Lib.parseIntB 64 t.data.toList <;> simp

theorem digs_tells (s : ByteArray) (hs : s.size ≤ 65536) (n : Int) (hpos : 0 < spanN digitB s) (d : Nat) : ∀ (k i : Nat), i ≤ s.size → s.size - i = d → d + s.size + 4 < k → (∀ j, j < i → digitB (bt s ((j : Nat) : Int)) = true) →
    ∃ v, PScan.penduleref01_token.l0 k s n (i : Int) = some (3, headOf s (spanN digitB s), v, 0, 0, numPart (headOf s (spanN digitB s)) && (n == (spanN digitB s : Int))) ∧ (numPart (headOf s (spanN digitB s)) = true → v = numN (headOf s (spanN digitB s))) := by
  have hle := spanN_le digitB s
  have hfin : ∀ k, s.size + 3 < k → ∃ v, ((PScan.penduleref01_number.f k (s.extract 0 (spanN digitB s))).bind fun b => (if b.2 = true then (some (3, s.extract 0 (spanN digitB s), b.1, 0, 0, (n == ((spanN digitB s : Nat) : Int)))) else (some ((3 : Int), s.extract 0 (spanN digitB s), b.1, (0 : Int), (0 : Int), false)))) =
      some (3, headOf s (spanN digitB s), v, 0, 0, numPart (headOf s (spanN digitB s)) && (n == (spanN digitB s : Int))) ∧ (numPart (headOf s (spanN digitB s)) = true → v = numN (headOf s (spanN digitB s))) := by
    intro k hk
    have hz := headOf_size s (spanN digitB s) hle
    obtain ⟨v, ok, h1, h2, h3⟩ := refnum_eq (headOf s (spanN digitB s)) (by omega) (by omega) (fun c hc => by
      have := span_all digitB s c hc
      simp only [digitB, Bool.and_eq_true, decide_eq_true_eq] at this
      unfold isDig; omega) k (by omega)
    have h2' : ok = numPart (headOf s (spanN digitB s)) := h2
    refine ⟨v, ?_, fun h => h3 (h2'.trans h)⟩
    show ((PScan.penduleref01_number.f k (headOf s (spanN digitB s))).bind _) = _
    rw [h1, Option.bind_some, ← h2']
    cases ok with
    | true => simp [headOf]
    | false => simp [headOf]
  induction d with
  | zero =>
    intro k i hi hd hk hall
    obtain ⟨k, rfl⟩ : ∃ m, k = m + 1 := ⟨k - 1, by omega⟩
    have hm := spanN_of digitB s i hi hall (.inl (by omega))
    have l1 : ¬ (i : Int) < (s.size : Int) := by omega
    have l2 : (0 : Int) ≤ (i : Int) := by omega
    have l3 : (i : Int) ≤ (s.size : Int) := by omega
    rw [PScan.penduleref01_token.l0, if_neg l1, if_pos l2, if_pos l3, Int.toNat_natCast]
    have := hfin k (by omega)
    rw [hm] at this ⊢
    exact this
  | succ d ih =>
    intro k i hi hd hk hall
    obtain ⟨k, rfl⟩ : ∃ m, k = m + 1 := ⟨k - 1, by omega⟩
    have l1 : (i : Int) < (s.size : Int) := by omega
    have l2 : (0 : Int) ≤ (i : Int) := by omega
    have l3 : (i : Int) ≤ (s.size : Int) := by omega
    have l4 : (i : Int) < 9223372036854775807 := by omega
    have cc : ((i + 1 : Nat) : Int) = (i : Int) + 1 := by omega
    rw [PScan.penduleref01_token.l0, if_pos l1, if_pos l2, digit_eq, Option.bind_some]
    cases hq : digitB (bt s (i : Int)) with
    | true =>
      rw [if_pos rfl, wrap_add l2 l4, ← cc]
      exact ih k (i + 1) (by omega) (by omega) (by omega) (fun j hj => by
        by_cases e : j < i
        · exact hall j e
        · obtain rfl : j = i := by omega
          exact hq)
    | false =>
      have hm := spanN_of digitB s i hi hall (.inr ⟨by omega, hq⟩)
      rw [if_neg Bool.false_ne_true, if_pos l3, Int.toNat_natCast]
      have := hfin k (by omega)
      rw [hm] at this ⊢
      exact this

theorem prefix_head (x y : ByteArray) : Lib.hasPrefix x.data.toList y.data.toList = true ↔ (y.size ≤ x.size ∧ (x.extract 0 y.size).toList = y.toList) := by
  unfold Lib.hasPrefix
  rw [List.isPrefixOf_iff_prefix, List.prefix_iff_eq_take, data_length]
  have hh : (x.extract 0 y.size).data.toList = x.data.toList.take y.size := headOf_data x y.size
  constructor
  · intro h
    have hl := congrArg List.length h
    rw [List.length_take, data_length, data_length] at hl
    refine ⟨by omega, ?_⟩
    have : x.extract 0 y.size = y := data_inj (by rw [hh, ← h])
    rw [this]
  · rintro ⟨_, h⟩
    have := toList_inj h
    rw [← hh, this]

theorem signs_tells (s : ByteArray) (L : List ByteArray) (hL : L.length ≤ 65536) (d : Nat) : ∀ (k i : Nat), i ≤ L.length → L.length - i = d → d < k →
    PScan.penduleref01_token.l1 k s L (i : Int) = (match (L.drop i).find? (fun x => Lib.hasPrefix s.data.toList x.data.toList) with | some x => some (4, x, 0, 0, 0, true) | none => some (0, ⟨#[]⟩, 0, 0, 0, false)) := by
  induction d with
  | zero =>
    intro k i hi hd hk
    obtain ⟨k, rfl⟩ : ∃ m, k = m + 1 := ⟨k - 1, by omega⟩
    have l1 : ¬ (i : Int) < (L.length : Int) := by omega
    rw [PScan.penduleref01_token.l1, if_neg l1, List.drop_of_length_le (by omega)]
    rfl
  | succ d ih =>
    intro k i hi hd hk
    obtain ⟨k, rfl⟩ : ∃ m, k = m + 1 := ⟨k - 1, by omega⟩
    have hlt : i < L.length := by omega
    have hdr : L.drop i = L[i] :: L.drop (i + 1) := List.drop_eq_getElem_cons hlt
    have hrd : rdOf ByteArray.empty L (i : Int) = L[i] := by simp [rdOf, hlt]
    have l1 : (i : Int) < (L.length : Int) := by omega
    have l2 : (0 : Int) ≤ (i : Int) := by omega
    have l4 : (i : Int) < 9223372036854775807 := by omega
    have cc : ((i + 1 : Nat) : Int) = (i : Int) + 1 := by omega
    have hrec := ih k (i + 1) (by omega) (by omega) (by omega)
    rw [PScan.penduleref01_token.l1, if_pos l1, if_pos l2, hrd, wrap_add l2 l4, ← cc, hrec, hdr, List.find?_cons]
    have hp := prefix_head s L[i]
    generalize L[i] = y at hp ⊢
    have m1 : (0 : Int) ≤ (y.size : Int) := by omega
    by_cases hge : (s.size : Int) ≥ (y.size : Int)
    · have hge' : (y.size : Int) ≤ (s.size : Int) := hge
      rw [if_pos hge, if_pos m1, if_pos hge', Int.toNat_natCast]
      by_cases he : (s.extract 0 y.size).toList = y.toList
      · rw [if_pos he, hp.mpr ⟨by omega, he⟩]
      · rw [if_neg he]
        have : Lib.hasPrefix s.data.toList y.data.toList = false := by
          cases hq : Lib.hasPrefix s.data.toList y.data.toList with
          | false => rfl
          | true => exact absurd (hp.mp hq).2 he
        rw [this]
    · rw [if_neg hge]
      have : Lib.hasPrefix s.data.toList y.data.toList = false := by
        cases hq : Lib.hasPrefix s.data.toList y.data.toList with
        | false => rfl
        | true => exact absurd (by have := (hp.mp hq).1; omega) hge
      rw [this]

theorem refSigns_eq : PScan.penduleref01_Signs.f = some signList := rfl

theorem reftok_eq (s : ByteArray) (hs : s.size ≤ 65536) (h0 : 0 < s.size) (k : Nat) (hk : 2 * s.size + 30 < k) :
    ∃ q, PScan.penduleref01_token.f k s = some q ∧ q.2.2.2.2.2 = (tokOf s).2.2.2 ∧ ((tokOf s).2.2.2 = true → q.1 = (tokOf s).1 ∧ q.2.1 = (tokOf s).2.1 ∧ q.2.2.1 = (tokOf s).2.2.1) := by
  obtain ⟨k, rfl⟩ : ∃ m, k = m + 1 := ⟨k - 1, by omega⟩
  have p0 : (0 : Int) < (s.size : Int) := by omega
  have hle := spanN_le innerB s
  unfold PScan.penduleref01_token.f
  rw [run_eq s (by omega) _ (by omega), Option.bind_some, if_pos p0, digit_eq, Option.bind_some]
  unfold tokOf
  cases hd : digitB (bt s 0) with
  | true =>
    have hpos := spanN_pos digitB s h0 hd
    obtain ⟨v, h1, h2⟩ := digs_tells s hs (spanN innerB s : Int) hpos s.size (k + 1) 0 (by omega) (by omega) (by omega) (fun j hj => absurd hj (Nat.not_lt_zero _))
    rw [show ((0 : Nat) : Int) = 0 from rfl] at h1
    rw [if_pos rfl, if_pos rfl]
    refine ⟨_, h1, ?_, ?_⟩
    · simp only
      rw [numOk_part, headOf_size s _ (spanN_le digitB s)]
      congr 1
      rw [Bool.eq_iff_iff, beq_iff_eq, decide_eq_true_eq]; omega
    · simp only
      intro h
      rw [numOk_part, Bool.and_eq_true] at h
      exact ⟨trivial, trivial, h2 h.1⟩
  | false =>
    rw [if_neg Bool.false_ne_true, if_neg Bool.false_ne_true]
    have hj : ∀ b : Bool, b = (lowerB (bt s 0) || upperB (bt s 0)) → ∃ q, PScan.penduleref01_token.j1 (k + 1) s (spanN innerB s : Int) b = some q ∧
        q.2.2.2.2.2 = ((if (lowerB (bt s 0) || upperB (bt s 0)) = true then (nameSort (headOf s (spanN innerB s)), headOf s (spanN innerB s), (0 : Int), decide (((headOf s (spanN innerB s)).size : Int) ≤ 24)) else match signOf s with | some x => (4, x, 0, true) | none => (0, ⟨#[]⟩, 0, false)) : Int × ByteArray × Int × Bool).2.2.2 ∧
        (((if (lowerB (bt s 0) || upperB (bt s 0)) = true then (nameSort (headOf s (spanN innerB s)), headOf s (spanN innerB s), (0 : Int), decide (((headOf s (spanN innerB s)).size : Int) ≤ 24)) else match signOf s with | some x => (4, x, 0, true) | none => (0, ⟨#[]⟩, 0, false)) : Int × ByteArray × Int × Bool).2.2.2 = true →
          q.1 = ((if (lowerB (bt s 0) || upperB (bt s 0)) = true then (nameSort (headOf s (spanN innerB s)), headOf s (spanN innerB s), (0 : Int), decide (((headOf s (spanN innerB s)).size : Int) ≤ 24)) else match signOf s with | some x => (4, x, 0, true) | none => (0, ⟨#[]⟩, 0, false)) : Int × ByteArray × Int × Bool).1 ∧
          q.2.1 = ((if (lowerB (bt s 0) || upperB (bt s 0)) = true then (nameSort (headOf s (spanN innerB s)), headOf s (spanN innerB s), (0 : Int), decide (((headOf s (spanN innerB s)).size : Int) ≤ 24)) else match signOf s with | some x => (4, x, 0, true) | none => (0, ⟨#[]⟩, 0, false)) : Int × ByteArray × Int × Bool).2.1 ∧
          q.2.2.1 = ((if (lowerB (bt s 0) || upperB (bt s 0)) = true then (nameSort (headOf s (spanN innerB s)), headOf s (spanN innerB s), (0 : Int), decide (((headOf s (spanN innerB s)).size : Int) ≤ 24)) else match signOf s with | some x => (4, x, 0, true) | none => (0, ⟨#[]⟩, 0, false)) : Int × ByteArray × Int × Bool).2.2.1) := by
      intro b hb
      subst hb
      rw [PScan.penduleref01_token.j1]
      cases hn : (lowerB (bt s 0) || upperB (bt s 0)) with
      | true =>
        have hi : innerB (bt s 0) = true := by simp only [innerB, hn, Bool.true_or]
        have hp := spanN_pos innerB s h0 hi
        have l1 : (0 : Int) ≤ ((spanN innerB s : Nat) : Int) := by omega
        have l2 : ((spanN innerB s : Nat) : Int) ≤ (s.size : Int) := by omega
        have hbt : bt (headOf s (spanN innerB s)) 0 = bt s 0 := by
          have ha : 0 < (headOf s (spanN innerB s)).data.toList.length := by rw [data_length, headOf_size s _ hle]; exact hp
          have hb : 0 < s.data.toList.length := by rw [data_length]; exact h0
          have e1 := bt_get (headOf s (spanN innerB s)) 0 ha
          have e2 := bt_get s 0 hb
          rw [show ((0 : Nat) : Int) = 0 from rfl] at e1 e2
          rw [e1, e2]
          congr 2
          simp only [headOf_data, List.getElem_take]
        rw [if_pos rfl, if_pos rfl, if_pos l1, if_pos l2, if_pos p0, small_eq, Option.bind_some, Int.toNat_natCast]
        rw [show s.extract 0 (spanN innerB s) = headOf s (spanN innerB s) from rfl, refWord_eq _ _ (by omega), Option.bind_some]
        simp only [Option.bind_some]
        rw [headOf_size s _ hle]
        unfold nameSort
        rw [hbt]
        cases isWordB (headOf s (spanN innerB s)) with
        | true =>
          cases lowerB (bt s 0) with
          | true => exact ⟨_, rfl, rfl, fun _ => ⟨rfl, rfl, rfl⟩⟩
          | false => exact ⟨_, rfl, rfl, fun _ => ⟨rfl, rfl, rfl⟩⟩
        | false =>
          cases hlo : lowerB (bt s 0) with
          | true =>
            have hu : upperB (bt s 0) = false := by
              cases hu : upperB (bt s 0) with
              | false => rfl
              | true => rw [upper_not_lower _ hu] at hlo; cases hlo
            rw [hu]; exact ⟨_, rfl, rfl, fun _ => ⟨rfl, rfl, rfl⟩⟩
          | false =>
            rw [hlo, Bool.false_or] at hn
            rw [hn]; exact ⟨_, rfl, rfl, fun _ => ⟨rfl, rfl, rfl⟩⟩
      | false =>
        have hsg := signs_tells s signList (by decide) signList.length k 0 (by omega) (by omega) (by simp only [signList, List.length_cons, List.length_nil]; omega)
        rw [show ((0 : Nat) : Int) = 0 from rfl, List.drop_zero] at hsg
        rw [if_neg Bool.false_ne_true, if_neg Bool.false_ne_true, refSigns_eq, Option.bind_some, hsg]
        rw [show List.find? (fun x => Lib.hasPrefix s.data.toList x.data.toList) signList = signOf s from rfl]
        cases signOf s with
        | some x => exact ⟨_, rfl, rfl, fun _ => ⟨rfl, rfl, rfl⟩⟩
        | none => exact ⟨_, rfl, rfl, fun h => by cases h⟩
    by_cases hpos : ((spanN innerB s : Nat) : Int) > 0
    · rw [if_pos hpos]
      refine hj _ ?_
      have hfirst : innerB (bt s 0) = true := by
        have hb : 0 < s.data.toList.length := by rw [data_length]; exact h0
        have e2 := bt_get s 0 hb
        rw [show ((0 : Nat) : Int) = 0 from rfl] at e2
        unfold spanN at hpos
        cases hd0 : s.data.toList with
        | nil => rw [hd0] at hb; simp at hb
        | cons c r =>
          simp only [hd0, List.getElem_cons_zero] at e2
          rw [e2]
          cases hic : innerB (c.toNat : Int) with
          | true => rfl
          | false => rw [hd0, List.takeWhile_cons, hic] at hpos; simp at hpos
      unfold innerB at hfirst
      rw [hd] at hfirst
      have hne : (lowerB (bt s 0) || upperB (bt s 0)) = true → bt s 0 ≠ 95 := by
        simp only [upperB, lowerB, Bool.or_eq_true, Bool.and_eq_true, decide_eq_true_eq]; omega
      cases hlu : (lowerB (bt s 0) || upperB (bt s 0)) with
      | true => exact bne_iff_ne.mpr (hne hlu)
      | false =>
        rw [hlu] at hfirst
        simp at hfirst
        rw [hfirst]; rfl
    · rw [if_neg hpos]
      refine hj _ ?_
      cases hlu : (lowerB (bt s 0) || upperB (bt s 0)) with
      | false => rfl
      | true =>
        have hi : innerB (bt s 0) = true := by simp only [innerB, hlu, Bool.true_or]
        have := spanN_pos innerB s h0 hi
        omega

/-! ### The reference's Scan -/
theorem ref_tells (t : ByteArray) (ht : t.size ≤ 65536) (d : Nat) : ∀ (k a : Nat) (out : List S32), a ≤ t.size → t.size - a < d → out.length + (t.size - a) ≤ t.size → d + 5 * t.size + 40 < k →
    PScan.penduleref01_Scan.l0 k t out (gapEnd t a : Int) = some (scanFrom t d a out) := by
  induction d with
  | zero => intro k a out ha hd; omega
  | succ d ih =>
    intro k a out ha hd ho hk
    obtain ⟨k, rfl⟩ : ∃ m, k = m + 1 := ⟨k - 1, by omega⟩
    rw [PScan.penduleref01_Scan.l0, scanFrom]
    have hb := gapEnd_le t a ha
    have hba : a ≤ gapEnd t a := by unfold gapEnd; omega
    generalize gapEnd t a = b at hb hba ⊢
    have o1 : out.length < 2932031007402 := by omega
    by_cases e : b = t.size
    · have l1 : ¬ (b : Int) < (t.size : Int) := by omega
      rw [if_neg l1, if_pos e, place_eq t ht t.size k (Nat.le_refl _) (by omega), Option.bind_some, if_pos o1, e]
    · have l1 : (b : Int) < (t.size : Int) := by omega
      have l2 : (0 : Int) ≤ (b : Int) := by omega
      have l3 : (b : Int) ≤ (t.size : Int) := by omega
      have hz : (t.extract b t.size).size = t.size - b := by rw [ByteArray.size_extract]; omega
      obtain ⟨q', hq', hqo, hqf⟩ := reftok_eq (t.extract b t.size) (by omega) (by omega) k (by omega)
      rw [if_pos l1, if_neg e, if_pos l2, if_pos l3, Int.toNat_natCast, hq', Option.bind_some, place_eq t ht b k hb (by omega), Option.bind_some, hqo]
      have hok := tokOf_ok (t.extract b t.size) (by omega)
      generalize tokOf (t.extract b t.size) = q at hok hqo hqf ⊢
      by_cases hq : q.2.2.2 = true
      · obtain ⟨h1, h2, _, _⟩ := hok hq
        obtain ⟨f1, f2, f3⟩ := hqf hq
        have v1 : (b : Int) + (q.2.1.size : Int) = ((b + q.2.1.size : Nat) : Int) := by omega
        have n2 : (0 : Int) ≤ ((b + q.2.1.size : Nat) : Int) := by omega
        have n4 : ((b + q.2.1.size : Nat) : Int) ≤ (t.size : Int) := by omega
        have n5 : b + q.2.1.size ≤ t.size := by omega
        have hge := gapEnd_le t (b + q.2.1.size) n5
        have hg := gap_eq (t.extract (b + q.2.1.size) t.size) (by rw [ByteArray.size_extract]; omega) k (by rw [ByteArray.size_extract]; omega)
        rw [extract_rest] at hg
        have hgd : gapEnd t (b + q.2.1.size) = b + q.2.1.size + gapL false (rest t (b + q.2.1.size)) := rfl
        have v2 : ((b + q.2.1.size : Nat) : Int) + ((gapL false (rest t (b + q.2.1.size)) : Nat) : Int) = ((gapEnd t (b + q.2.1.size) : Nat) : Int) := by omega
        have b1 : ((b + q.2.1.size : Nat) : Int) < 9223372036854775808 := by omega
        have b2 : ((gapEnd t (b + q.2.1.size) : Nat) : Int) < 9223372036854775808 := by omega
        have b3 : (0 : Int) ≤ ((gapEnd t (b + q.2.1.size) : Nat) : Int) := by omega
        have hrec := ih k (b + q.2.1.size) (out ++ [(⟨q.1, q.2.1, q.2.2.1, (placeAt t b).1, (placeAt t b).2⟩ : S32)]) n5 (by omega) (by rw [List.length_append]; simp; omega) (by omega)
        have w1 := wrap_small' n2 b1
        have w2 := wrap_small' b3 b2
        rw [if_pos hq, if_pos hq, if_pos o1, f1, f2, f3, v1, w1, if_pos n2, if_pos n4, Int.toNat_natCast, hg, Option.bind_some, v2, w2]
        exact hrec
      · rw [if_neg hq, if_neg hq]

theorem refscan_eq (t : ByteArray) (k : Nat) (hk : 6 * t.size + 42 < k) : PScan.penduleref01_Scan.f k t = some (scanOf t) := by
  unfold PScan.penduleref01_Scan.f scanOf
  by_cases h : (t.size : Int) > 65536
  · rw [if_pos h, if_pos h]
  · rw [if_neg h, if_neg h, gap_eq t (by omega) k (by omega), Option.bind_some]
    have := ref_tells t (by omega) (t.size + 1) k 0 [] (by omega) (by omega) (by simp) (by omega)
    unfold gapEnd at this
    rw [show rest t 0 = t.data.toList from List.drop_zero, Nat.zero_add] at this
    exact this

theorem same_tells (l : List S32) (hl : l.length ≤ 9223372036854775806) (d : Nat) : ∀ (k i : Nat), i ≤ l.length → l.length - i = d → d < k → PScan.penduleref01_Same.l0 k l l (i : Int) = some true := by
  induction d with
  | zero =>
    intro k i hi hd hk
    obtain ⟨k, rfl⟩ : ∃ m, k = m + 1 := ⟨k - 1, by omega⟩
    have l1 : ¬ (i : Int) < (l.length : Int) := by omega
    rw [PScan.penduleref01_Same.l0, if_neg l1]
  | succ d ih =>
    intro k i hi hd hk
    obtain ⟨k, rfl⟩ : ∃ m, k = m + 1 := ⟨k - 1, by omega⟩
    have l1 : (i : Int) < (l.length : Int) := by omega
    have l2 : (0 : Int) ≤ (i : Int) := by omega
    have l4 : (i : Int) < 9223372036854775807 := by omega
    have cc : ((i + 1 : Nat) : Int) = (i : Int) + 1 := by omega
    rw [PScan.penduleref01_Same.l0, if_pos l1, if_pos l2, if_pos l1, if_neg (by simp), wrap_add l2 l4, ← cc]
    exact ih k (i + 1) (by omega) (by omega) (by omega)

theorem scanOf_len (t : ByteArray) : (scanOf t).1.length ≤ t.size + 1 := by
  unfold scanOf
  split
  · simp
  · have := scanFrom_len t (t.size + 1) 0 [] (by omega) (by omega)
    simp at this; exact this

theorem pureTokens : PScan.pendulelaw01_ScanTokens.Pure := by
  intro s hs
  refine ⟨6 * s.size + 43, ?_⟩
  unfold PScan.pendulelaw01_ScanTokens.f
  rw [scan_eq s _ (by omega), refscan_eq s _ (by omega)]
  have hl := scanOf_len s
  have hm := same_tells (scanOf s).1 (by omega) (scanOf s).1.length (6 * s.size + 43) 0 (by omega) (by omega) (by omega)
  rw [show ((0 : Nat) : Int) = 0 from rfl] at hm
  simp only [PScan.pendulelaw01_lives.f, Option.bind_some, if_true, beq_self_eq_true, Bool.and_self, PScan.penduleref01_Same.f, hm]
end Go.Proofs.YtffeikfffmonkaaDoor
