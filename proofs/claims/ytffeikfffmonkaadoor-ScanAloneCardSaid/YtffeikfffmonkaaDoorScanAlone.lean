/- Plain law: a name, a constructor or a word is scanned as one token, and nothing else is. -/
import Derived.Test.YtffeikfffmonkaaDoorScanPlaces
import Derived.Test.YtffeikfffmonkaaDoorPScanx13
namespace Go.Proofs.YtffeikfffmonkaaDoor
open Go Go.RowKit Go.Lib Go.Proofs.YtffeikfffmonkaaDoorW.PrintWords Go.Proofs.YtffeikfffmonkaaDoorW.PrintMore PScan
set_option maxRecDepth 100000
set_option linter.unusedSimpArgs false
set_option linter.unusedVariables false

theorem letter_not_digit (c : Int) : (lowerB c || upperB c) = true → digitB c = false ∧ blankB c = false ∧ c ≠ 45 := by
  simp only [upperB, lowerB, digitB, blankB, Bool.or_eq_true, Bool.and_eq_true, decide_eq_true_eq, Bool.and_eq_false_iff, decide_eq_false_iff_not, Bool.or_eq_false_iff, beq_eq_false_iff_ne]
  omega

theorem alone_scan (x : ByteArray) (w : Int) (h0 : 0 < x.size) (h24 : x.size ≤ 24) (hg : gapEnd x 0 = 0) (htok : tokOf x = (w, x, 0, true)) :
    scanOf x = ([(⟨w, x, 0, 1, 1⟩ : S32), (⟨6, ⟨#[]⟩, 0, 1, 1 + (x.size : Int)⟩ : S32)], 0, 0, 0) := by
  have hnl := (tokOf_ok x h0 (by rw [htok])).2.2.2
  rw [htok] at hnl
  simp only at hnl
  have hx : x.extract 0 x.size = x := headOf_all x
  have hge : gapEnd x (0 + x.size) = x.size := by
    unfold gapEnd
    have : rest x (0 + x.size) = [] := List.eq_nil_of_length_eq_zero (by rw [rest_len]; omega)
    rw [this]; simp [gapL]
  have hp0 : placeAt x 0 = (1, 1) := by unfold placeAt; rw [List.take_zero]; rfl
  have hp1 : placeAt x x.size = (1, 1 + (x.size : Int)) := by
    unfold placeAt
    rw [List.take_of_length_le (by rw [data_length]; exact Nat.le_refl _), adv_plain _ _ hnl, data_length]
  have hz : ¬ (x.size : Int) > 65536 := by omega
  have hne : ¬ 0 = x.size := by omega
  have ho : scanOf x = scanFrom x (x.size + 1) 0 [] := by unfold scanOf; rw [if_neg hz]
  obtain ⟨m, hm⟩ : ∃ m, x.size = m + 1 := ⟨x.size - 1, by omega⟩
  rw [ho, scanFrom, hg, if_neg hne, hx, htok]
  simp only [if_true]
  rw [show scanFrom x x.size = scanFrom x (m + 1) by rw [← hm], scanFrom, hge, if_pos rfl, hp0, hp1]
  rfl

theorem shaped_tok (p : Int → Bool) (hp : ∀ c, p c = true → (lowerB c || upperB c) = true) (x : ByteArray) (h : shapedB p x = true) :
    0 < x.size ∧ x.size ≤ 24 ∧ p (bt x 0) = true ∧ gapEnd x 0 = 0 ∧ tokOf x = (nameSort x, x, 0, true) := by
  simp only [shapedB, Bool.and_eq_true, decide_eq_true_eq] at h
  obtain ⟨h0, h24, hb, hsp⟩ := h
  have hl := hp _ hb
  obtain ⟨d1, d2, d3⟩ := letter_not_digit _ hl
  refine ⟨h0, h24, hb, ?_, ?_⟩
  · obtain ⟨c, hc, hbt⟩ := rest_cons x 0 h0
    rw [show ((0 : Nat) : Int) = 0 from rfl] at hbt
    rw [hbt] at d2 d3
    unfold gapEnd
    rw [hc, gapL, if_neg (by rw [d2]; decide), if_neg (fun hh => d3 (by rw [hh.1]; rfl))]
  · unfold tokOf
    rw [if_neg (by rw [d1]; decide), if_pos hl, hsp, headOf_all]
    have : decide ((x.size : Int) ≤ 24) = true := decide_eq_true (by omega)
    rw [this]

theorem word_shaped (x : ByteArray) (h : isWordB x = true) : shapedB lowerB x = true := by
  unfold isWordB at h
  obtain ⟨y, hy, hs⟩ := List.any_eq_true.mp h
  obtain rfl := of_decide_eq_true hs
  have h : (wordList.all fun y => shapedB lowerB y) = true := by kernel_rfl
  exact List.all_eq_true.mp h y hy

theorem alone_kind (x : ByteArray) (hW : isWordB x = false) (hC : isConB x = false) (hN : isNameB x = false) (r : List S32) (a b : Int) (h : scanOf x = (r, 0, a, b)) (h2 : (r.length : Int) = 2) (ht : ((rd_T32 r 0).f1).toList = x.toList) :
    (rd_T32 r 0).f0 = 3 ∨ (rd_T32 r 0).f0 = 4 := by
  unfold scanOf at h
  by_cases hz : (x.size : Int) > 65536
  · rw [if_pos hz] at h; simp only [Prod.mk.injEq] at h; omega
  · rw [if_neg hz, scanFrom] at h
    have hb := gapEnd_le x 0 (Nat.zero_le _)
    generalize gapEnd x 0 = g at hb h
    by_cases e : g = x.size
    · rw [if_pos e] at h
      simp only [Prod.mk.injEq] at h
      rw [← h.1] at h2
      simp at h2
    · rw [if_neg e] at h
      have hsz : (x.extract g x.size).size = x.size - g := by rw [ByteArray.size_extract]; omega
      have hok := tokOf_ok (x.extract g x.size) (by omega)
      have hx : g = 0 → x.extract g x.size = x := fun hg => by subst hg; exact headOf_all x
      by_cases hq : (tokOf (x.extract g x.size)).2.2.2 = true
      · obtain ⟨h1, h3, hhd, _⟩ := hok hq
        rw [if_pos hq] at h
        obtain ⟨z, l, hr⟩ := scanFrom_pre x x.size _ _ _ _ _ (by omega) (by omega) h
        rw [List.nil_append, List.singleton_append] at hr
        have hrd := rd_at [] (z :: l) (⟨(tokOf (x.extract g x.size)).1, (tokOf (x.extract g x.size)).2.1, (tokOf (x.extract g x.size)).2.2.1, (placeAt x g).1, (placeAt x g).2⟩ : S32) 0 rfl
        rw [List.nil_append, ← hr] at hrd
        rw [show ((0 : Nat) : Int) = 0 from rfl] at hrd
        rw [hrd] at ht ⊢
        simp only at ht ⊢
        have hte := toList_inj ht
        rw [hte] at h3
        have hg0 : g = 0 := by omega
        rw [hx hg0] at hte hq ⊢
        clear hrd hr h hok hx hsz h1 h3 hhd
        have h0 : 0 < x.size := by omega
        unfold tokOf at hte hq ⊢
        by_cases hd : digitB (bt x 0) = true
        · rw [if_pos hd]; left; rfl
        · rw [if_neg hd] at hte hq ⊢
          by_cases hn : (lowerB (bt x 0) || upperB (bt x 0)) = true
          · rw [if_pos hn] at hte hq
            simp only at hte hq
            have hl := spanN_le innerB x
            have hs := headOf_size x (spanN innerB x) hl
            rw [hte] at hs hq
            have h24 : x.size ≤ 24 := by have := of_decide_eq_true hq; omega
            exfalso
            have hsh : ∀ p : Int → Bool, p (bt x 0) = true → shapedB p x = true := fun p hp => by
              unfold shapedB
              rw [decide_eq_true h0, decide_eq_true h24, hp, decide_eq_true hs.symm]; rfl
            cases hu : upperB (bt x 0) with
            | true => rw [show isConB x = true from hsh upperB hu] at hC; cases hC
            | false =>
              rw [hu, Bool.or_false] at hn
              rw [show isNameB x = true by unfold isNameB; rw [hsh lowerB hn, hW]; rfl] at hN
              cases hN
          · rw [if_neg hn] at hq ⊢
            cases hsg : signOf x with
            | none => rw [hsg] at hq; simp at hq
            | some y => right; rfl
      · rw [if_neg hq] at h
        simp only [Prod.mk.injEq] at h
        omega

theorem pureAlone : PScan.pendulelaw01_ScanAlone.Pure := by
  intro s hs
  refine ⟨(3 * s.size + 22 + 3) + 1 + 1, ?_⟩
  have hN : PScan.scan_IsName.f s = some (isNameB s) := by unfold PScan.scan_IsName.f; rw [if_pos (by omega)]
  have hC : PScan.scan_IsCon.f s = some (isConB s) := by unfold PScan.scan_IsCon.f; rw [if_pos (by omega)]
  have hW : PScan.scan_IsWord.f (3 * s.size + 22 + 3) s = some (isWordB s) := isWord_eq s _ (by omega)
  have hS : PScan.scan_Scan.f ((3 * s.size + 22 + 3) + 1 + 1) s = some (scanOf s) := scan_eq s _ (by omega)
  have hw1 : isWordB s = true → scanOf s = ([(⟨5, s, 0, 1, 1⟩ : S32), (⟨6, ⟨#[]⟩, 0, 1, 1 + (s.size : Int)⟩ : S32)], 0, 0, 0) ∧ s.size ≤ 24 := fun h => by
    obtain ⟨a1, a2, a3, a4, a5⟩ := shaped_tok lowerB (fun c hc => by rw [hc]; rfl) s (word_shaped s h)
    exact ⟨alone_scan s 5 a1 a2 a4 (by rw [a5]; unfold nameSort; rw [if_pos h]), a2⟩
  have hc1 : isConB s = true → scanOf s = ([(⟨2, s, 0, 1, 1⟩ : S32), (⟨6, ⟨#[]⟩, 0, 1, 1 + (s.size : Int)⟩ : S32)], 0, 0, 0) ∧ s.size ≤ 24 := fun h => by
    obtain ⟨a1, a2, a3, a4, a5⟩ := shaped_tok upperB (fun c hc => by rw [hc, Bool.or_true]) s h
    have hw : ¬ isWordB s = true := fun hw => by rw [word_not_con s hw] at h; cases h
    exact ⟨alone_scan s 2 a1 a2 a4 (by rw [a5]; unfold nameSort; rw [if_neg hw, if_pos a3]), a2⟩
  have hn1 : isNameB s = true → scanOf s = ([(⟨1, s, 0, 1, 1⟩ : S32), (⟨6, ⟨#[]⟩, 0, 1, 1 + (s.size : Int)⟩ : S32)], 0, 0, 0) ∧ s.size ≤ 24 := fun h => by
    have hw : ¬ isWordB s = true := by rw [name_not_word s h]; decide
    unfold isNameB at h
    rw [Bool.and_eq_true] at h
    obtain ⟨a1, a2, a3, a4, a5⟩ := shaped_tok lowerB (fun c hc => by rw [hc]; rfl) s h.1
    have hu : ¬ upperB (bt s 0) = true := fun hu => by rw [upper_not_lower _ hu] at a3; cases a3
    exact ⟨alone_scan s 1 a1 a2 a4 (by rw [a5]; unfold nameSort; rw [if_neg hw, if_neg hu]), a2⟩
  have hk := alone_kind s
  have wr : s.size ≤ 24 → wrap64 (1 + (s.size : Int)) = 1 + (s.size : Int) := fun h => by unfold wrap64; omega
  unfold PScan.pendulelaw01_ScanAlone.f
  rw [hS, hN]
  simp only [PScan.pendulelaw01_lives.f, Option.bind_some, if_true, PScan.pendulelaw01_ScanAlone.j0, PScan.pendulelaw01_ScanAlone.j1, hC, hW]
  cases hw : isWordB s with
  | true =>
    obtain ⟨e1, e2⟩ := hw1 hw
    rw [e1, wr e2]
    cases isNameB s <;> cases isConB s <;> simp [rd_T32]
  | false =>
    cases hc : isConB s with
    | true =>
      obtain ⟨e1, e2⟩ := hc1 hc
      rw [e1, wr e2]
      cases isNameB s <;> simp [rd_T32]
    | false =>
      cases hn : isNameB s with
      | true =>
        obtain ⟨e1, e2⟩ := hn1 hn
        rw [e1, wr e2]
        simp [rd_T32]
      | false =>
        have hk := hk hw hc hn
        generalize scanOf s = q at hk
        obtain ⟨r, f, a, b⟩ := q
        simp only [Bool.false_eq_true, if_false, if_true]
        by_cases hf : f = 0
        · subst hf
          rw [if_pos rfl]
          by_cases h2 : (r.length : Int) = 2
          · rw [if_pos h2, if_pos (by omega)]
            by_cases ht : ((rd_T32 r 0).f1).toList = s.toList
            · rw [if_pos ht]
              rcases hk r a b rfl h2 ht with h3 | h4
              · rw [if_pos h3]
              · rw [h4]; rfl
            · rw [if_neg ht]
          · rw [if_neg h2]
        · rw [if_neg hf]
end Go.Proofs.YtffeikfffmonkaaDoor
