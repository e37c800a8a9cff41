/- Plain law: what is spelled scans as what it was spelled from. -/
import Derived.Test.YtffeikfffmonkaaDoorScanBlanks
import Derived.Test.YtffeikfffmonkaaDoorPScanx14
namespace Go.Proofs.YtffeikfffmonkaaDoor
open Go Go.RowKit Go.Lib Go.Proofs.YtffeikfffmonkaaDoorW.PrintWords Go.Proofs.YtffeikfffmonkaaDoorW.PrintMore PScan
set_option maxRecDepth 100000
set_option linter.unusedSimpArgs false
set_option linter.unusedVariables false

/-! ### A blank ends a token -/
theorem spanN_blank (p : Int → Bool) (hp : p 32 = false) (r Y : List UInt8) : spanN p (barr (r ++ 32 :: Y)) = spanN p (barr r) := by
  rw [spanN_list, spanN_list, barr_data, barr_data, takeWhile_stop (fun c : UInt8 => p (c.toNat : Int)) 32 hp Y r]
theorem head_more (r Y : List UInt8) (n : Nat) (hn : n ≤ r.length) : headOf (barr (r ++ Y)) n = headOf (barr r) n :=
  data_inj (by rw [headOf_data, headOf_data, barr_data, barr_data, List.take_append_of_le_length hn])
theorem bt_more (r Y : List UInt8) (h : r ≠ []) : bt (barr (r ++ Y)) 0 = bt (barr r) 0 := by
  cases r with
  | nil => exact absurd rfl h
  | cons c r =>
    have e1 := bt_get (barr (c :: r ++ Y)) 0 (by rw [barr_data]; simp)
    have e2 := bt_get (barr (c :: r)) 0 (by rw [barr_data]; simp)
    rw [show ((0 : Nat) : Int) = 0 from rfl] at e1 e2
    rw [e1, e2]; rfl
theorem prefix_blank : ∀ (x r Y : List UInt8), (∀ c ∈ x, c.toNat ≠ 32) → x.isPrefixOf (r ++ 32 :: Y) = x.isPrefixOf r
  | [], r, Y, _ => by simp
  | c :: x, [], Y, h => by
    have : ¬ c = 32 := fun e => h c (by simp) (by rw [e]; rfl)
    simp [List.isPrefixOf, this]
  | c :: x, d :: r, Y, h => by
    rw [List.cons_append, List.isPrefixOf, List.isPrefixOf, prefix_blank x r Y (fun e he => h e (by simp [he]))]
theorem sign_noblank : ∀ x ∈ signList, ∀ c ∈ x.data.toList, c.toNat ≠ 32 := by
  intro x hx
  simp only [signList, List.mem_cons, List.not_mem_nil, or_false] at hx
  rcases hx with rfl | rfl | rfl | rfl | rfl | rfl | rfl | rfl | rfl | rfl | rfl | rfl | rfl | rfl | rfl | rfl | rfl | rfl <;> decide
theorem sign_blank (r Y : List UInt8) : signOf (barr (r ++ 32 :: Y)) = signOf (barr r) := by
  unfold signOf
  refine find_same _ _ _ (fun x hx => ?_)
  unfold Lib.hasPrefix
  rw [barr_data, barr_data]
  exact prefix_blank _ _ _ (sign_noblank x hx)
theorem tok_blank (r Y : List UInt8) (h : r ≠ []) : tokOf (barr (r ++ 32 :: Y)) = tokOf (barr r) := by
  have hd := spanN_le digitB (barr r)
  have hi := spanN_le innerB (barr r)
  rw [barr_size] at hd hi
  unfold tokOf numOk
  rw [bt_more r _ h, spanN_blank digitB (by decide) r Y, spanN_blank innerB (by decide) r Y, head_more r _ _ hd, head_more r _ _ hi, sign_blank r Y]

/-! ### A token's text is that token -/
theorem takeWhile_idem {α : Type} (p : α → Bool) : ∀ l : List α, (l.takeWhile p).takeWhile p = l.takeWhile p
  | [] => rfl
  | a :: l => by
    by_cases h : p a = true
    · simp [List.takeWhile_cons, h, takeWhile_idem p l]
    · simp [List.takeWhile_cons, h]
theorem headOf_span (p : Int → Bool) (s : ByteArray) : spanN p (headOf s (spanN p s)) = spanN p s := by
  rw [spanN_list, headOf_data, spanN_list, take_takeWhile, takeWhile_idem]
theorem headOf_bt (s : ByteArray) (n : Nat) (hn : 0 < n) (hs : n ≤ s.size) : bt (headOf s n) 0 = bt s 0 := by
  have ha : 0 < (headOf s n).data.toList.length := by rw [data_length, headOf_size s _ hs]; exact hn
  have hb : 0 < s.data.toList.length := by rw [data_length]; omega
  have e1 := bt_get (headOf s n) 0 ha
  have e2 := bt_get s 0 hb
  rw [show ((0 : Nat) : Int) = 0 from rfl] at e1 e2
  rw [e1, e2]
  congr 2
  simp only [headOf_data, List.getElem_take]
theorem find_keeps {α : Type} (p q : α → Bool) (t : α) (hqp : ∀ x, q x = true → p x = true) (hq : q t = true) : ∀ L : List α, L.find? p = some t → L.find? q = some t
  | [], h => by cases h
  | a :: L, h => by
    rw [List.find?_cons] at h ⊢
    cases hp : p a with
    | true => rw [hp] at h; obtain rfl := Option.some.inj h; rw [hq]
    | false =>
      have : q a = false := by
        cases hqa : q a with
        | false => rfl
        | true => rw [hqp a hqa] at hp; cases hp
      rw [this]; rw [hp] at h; exact find_keeps p q t hqp hq L h
theorem sign_self {s t : ByteArray} (h : signOf s = some t) : signOf t = some t := by
  have hp := List.find?_some h
  unfold signOf at h ⊢
  refine find_keeps _ _ t (fun x hx => ?_) (by unfold Lib.hasPrefix; exact List.isPrefixOf_iff_prefix.mpr (List.prefix_refl _)) _ h
  unfold Lib.hasPrefix at hx hp ⊢
  exact List.isPrefixOf_iff_prefix.mpr ((List.isPrefixOf_iff_prefix.mp hx).trans (List.isPrefixOf_iff_prefix.mp hp))
theorem sign_first : ∀ x ∈ signList, digitB (bt x 0) = false ∧ (lowerB (bt x 0) || upperB (bt x 0)) = false := by
  intro x hx
  simp only [signList, List.mem_cons, List.not_mem_nil, or_false] at hx
  rcases hx with rfl | rfl | rfl | rfl | rfl | rfl | rfl | rfl | rfl | rfl | rfl | rfl | rfl | rfl | rfl | rfl | rfl | rfl <;> decide

theorem tok_self (s : ByteArray) (h0 : 0 < s.size) (h : (tokOf s).2.2.2 = true) : tokOf (tokOf s).2.1 = tokOf s := by
  by_cases hd : digitB (bt s 0) = true
  · have hp := spanN_pos digitB s h0 hd
    have hl := spanN_le digitB s
    have hz := headOf_size s (spanN digitB s) hl
    have hb := headOf_bt s _ hp hl
    have hsp := headOf_span digitB s
    have e : tokOf s = (3, headOf s (spanN digitB s), numN (headOf s (spanN digitB s)), numOk s (headOf s (spanN digitB s))) := by unfold tokOf; rw [if_pos hd]
    rw [e] at h ⊢
    simp only at h ⊢
    have hall := span_all digitB s
    generalize headOf s (spanN digitB s) = t at *
    have ht : headOf t (spanN digitB t) = t := by rw [hsp, ← hz, headOf_all]
    have hin : spanN innerB t = t.size := spanN_of innerB t t.size (Nat.le_refl _) (fun j hj => by
      have hjl : j < t.data.toList.length := by rw [data_length]; exact hj
      rw [bt_get t j hjl]
      have := hall _ (List.getElem_mem hjl)
      simp only [innerB, this, Bool.or_true, Bool.true_or]) (.inl rfl)
    unfold tokOf
    rw [hb, if_pos hd, ht]
    congr 3
    rw [h]
    unfold numOk at h ⊢
    rw [hin]
    revert h
    cases Lib.parseIntB 64 t.data.toList <;> simp
    intro a _; exact a
  · by_cases hn : (lowerB (bt s 0) || upperB (bt s 0)) = true
    · have hi : innerB (bt s 0) = true := by simp only [innerB, hn, Bool.true_or]
      have hp := spanN_pos innerB s h0 hi
      have hl := spanN_le innerB s
      have hz := headOf_size s (spanN innerB s) hl
      have hb := headOf_bt s _ hp hl
      have hsp := headOf_span innerB s
      have e : tokOf s = (nameSort (headOf s (spanN innerB s)), headOf s (spanN innerB s), 0, decide (((headOf s (spanN innerB s)).size : Int) ≤ 24)) := by unfold tokOf; rw [if_neg hd, if_pos hn]
      rw [e]
      simp only
      generalize headOf s (spanN innerB s) = t at *
      have ht : headOf t (spanN innerB t) = t := by rw [hsp, ← hz, headOf_all]
      unfold tokOf
      rw [hb, if_neg hd, if_pos hn, ht]
    · have e : tokOf s = match signOf s with | some x => (4, x, 0, true) | none => (0, ⟨#[]⟩, 0, false) := by unfold tokOf; rw [if_neg hd, if_neg hn]; cases signOf s <;> rfl
      cases hq : signOf s with
      | none => rw [hq] at e; rw [e] at h; simp at h
      | some t =>
        rw [hq] at e
        rw [e]
        simp only
        obtain ⟨f1, f2⟩ := sign_first t (List.mem_of_find?_eq_some hq)
        unfold tokOf
        rw [f1, f2, if_neg Bool.false_ne_true, if_neg Bool.false_ne_true, sign_self hq]

theorem gap_done : ∀ (l : List UInt8) (b : Bool), gapL false (l.drop (gapL b l)) = 0
  | [], b => by cases b <;> simp [gapL]
  | c :: l, true => by
    have h1 := gap_done l false
    have h2 := gap_done l true
    rw [gapL]
    split
    · rw [Nat.add_comm, List.drop_succ_cons]; exact h1
    · rw [Nat.add_comm, List.drop_succ_cons]; exact h2
  | c :: l, false => by
    have h1 := gap_done l false
    have h2 := gap_done l true
    have e : gapL false (c :: l) = if blankB (c.toNat : Int) = true then 1 + gapL false l else if c.toNat = 45 ∧ l.head?.map (·.toNat) = some 45 then 1 + gapL true l else 0 := by rw [gapL]
    by_cases hb : blankB (c.toNat : Int) = true
    · rw [e, if_pos hb, Nat.add_comm, List.drop_succ_cons]; exact h1
    · by_cases hn : c.toNat = 45 ∧ (l.head?.map (·.toNat)) = some 45
      · rw [e, if_neg hb, if_pos hn, Nat.add_comm, List.drop_succ_cons]; exact h2
      · rw [if_neg hb, if_neg hn] at e
        rw [e, List.drop_zero, e]

theorem gap_blank (t u Y : List UInt8) (h0 : t ≠ []) (h : gapL false (t ++ u) = 0) : gapL false (t ++ 32 :: Y) = 0 := by
  cases t with
  | nil => exact absurd rfl h0
  | cons c t =>
    rw [List.cons_append, gapL] at h ⊢
    by_cases hb : blankB (c.toNat : Int) = true
    · rw [if_pos hb] at h; omega
    · rw [if_neg hb] at h ⊢
      by_cases hn : c.toNat = 45 ∧ ((t ++ 32 :: Y).head?.map (·.toNat)) = some 45
      · exfalso
        cases t with
        | nil => have := hn.2; simp at this
        | cons d t =>
          rw [if_pos ⟨hn.1, by have := hn.2; simpa using this⟩] at h
          omega
      · rw [if_neg hn]

theorem scanV_blank (Y : List UInt8) : scanV (32 :: Y) = scanV Y := by
  have e : gapL false (32 :: Y) = gapL false Y + 1 := by rw [gapL, if_pos (by decide)]; omega
  rw [scanV_eq (32 :: Y), scanV_eq Y, e, List.drop_succ_cons]

theorem joinTail_eq (sep : List UInt8) (r : List (List UInt8)) : Lib.join ([] :: r) sep = (if r = [] then [] else sep ++ Lib.join r sep) := by
  cases r with
  | nil => rfl
  | cons x r => simp [Lib.join, List.intercalate, List.intersperse]
theorem join_two (x : List UInt8) (r : List (List UInt8)) (hr : r ≠ []) : Lib.join (x :: r) [32] = x ++ 32 :: Lib.join r [32] := by
  cases r with
  | nil => exact absurd rfl hr
  | cons y r => simp [Lib.join, List.intercalate, List.intersperse]

theorem scanV_spells (n : Nat) : ∀ (l : List UInt8) (la : List Plain), l.length = n → scanV l = some la → scanV (Lib.join (la.map fun q => q.2.1.data.toList) [32]) = some la := by
  induction n using Nat.strongRecOn with
  | _ n ih =>
    intro l la hln h
    have hg := gap_done l false
    rw [scanV_eq] at h
    have hlen : (l.drop (gapL false l)).length ≤ l.length := by rw [List.length_drop]; omega
    generalize l.drop (gapL false l) = r at hg h hlen
    by_cases hr : r = []
    · rw [if_pos hr] at h
      rw [← Option.some.inj h]
      rfl
    · rw [if_neg hr] at h
      by_cases hq : (tokOf (barr r)).2.2.2 = true
      · rw [if_pos hq] at h
        obtain ⟨lc, hlc, hla⟩ := Option.map_eq_some_iff.mp h
        have hsz : 0 < (barr r).size := by rw [barr_size]; exact List.length_pos_iff.mpr hr
        obtain ⟨p1, p2, p3, _⟩ := tokOf_ok (barr r) hsz hq
        have hself := tok_self (barr r) hsz hq
        have hrec := ih (r.drop (tokOf (barr r)).2.1.size).length (by rw [List.length_drop]; have := List.length_pos_iff.mpr hr; omega) _ lc rfl hlc
        have hne := scanV_ne _ _ hlc
        have htd : (tokOf (barr r)).2.1.data.toList = r.take (tokOf (barr r)).2.1.size := by
          have := congrArg (fun x : ByteArray => x.data.toList) p3
          simp only [headOf_data, barr_data] at this
          exact this
        generalize hqq : tokOf (barr r) = q at *
        have htn : q.2.1.data.toList ≠ [] := fun e => by have := data_length q.2.1; rw [e] at this; simp at this; omega
        have hbq : barr q.2.1.data.toList = q.2.1 := data_inj rfl
        have hgap : ∀ Y, gapL false (q.2.1.data.toList ++ 32 :: Y) = 0 := fun Y =>
          gap_blank q.2.1.data.toList (r.drop q.2.1.size) Y htn (by rw [htd, List.take_append_drop]; exact hg)
        rw [← hla]
        simp only [List.map_cons]
        rw [join_two _ _ (by simpa using hne), scanV_eq, hgap, List.drop_zero, if_neg (by simp), tok_blank _ _ htn, hbq, hself, if_pos hq]
        have hd : (q.2.1.data.toList ++ 32 :: Lib.join (lc.map fun q => q.2.1.data.toList) [32]).drop q.2.1.size = 32 :: Lib.join (lc.map fun q => q.2.1.data.toList) [32] := by
          rw [← data_length, List.drop_left]
        rw [hd, scanV_blank, hrec]
        rfl
      · rw [if_neg hq] at h; cases h

/-! ### The reference's Spell -/
theorem join_snoc : ∀ (xs : List (List UInt8)) (y : List UInt8), xs ≠ [] → Lib.join (xs ++ [y]) [32] = Lib.join xs [32] ++ 32 :: y
  | [], _, h => absurd rfl h
  | [x], y, _ => by rw [List.singleton_append, join_two x [y] (by simp)]; simp [Lib.join, List.intercalate]
  | x :: z :: xs, y, _ => by
    rw [List.cons_append, join_two x _ (by simp), join_snoc (z :: xs) y (by simp), join_two x (z :: xs) (by simp)]; simp
theorem join_more (xs : List (List UInt8)) (y : List UInt8) : (Lib.join xs [32]).length + y.length ≤ (Lib.join (xs ++ [y]) [32]).length ∧ (xs ≠ [] → (Lib.join xs [32]).length + 1 + y.length ≤ (Lib.join (xs ++ [y]) [32]).length) := by
  by_cases h : xs = []
  · subst h; simp [Lib.join, List.intercalate]
  · rw [join_snoc xs y h]; simp; omega
theorem join_prefix (L : List (List UInt8)) : ∀ (n : Nat), n ≤ L.length → (Lib.join (L.take (L.length - n)) [32]).length ≤ (Lib.join L [32]).length
  | 0, _ => by simp
  | n + 1, h => by
    have ih := join_prefix L n (by omega)
    have hm := (join_more (L.take (L.length - (n + 1))) (L[L.length - (n + 1)]'(by omega))).1
    have e : L.take (L.length - n) = L.take (L.length - (n + 1)) ++ [L[L.length - (n + 1)]'(by omega)] := by
      rw [show L.length - n = (L.length - (n + 1)) + 1 by omega, List.take_succ_eq_append_getElem (by omega)]
    rw [e] at ih; omega

theorem refspell_tells (l : List S32) (hl : l.length ≤ 2932031007402) (hS : (spellL l).length ≤ 140737488355328) (d : Nat) : ∀ (k i : Nat) (acc : ByteArray), i ≤ l.length → l.length - i = d → d < k → acc.data.toList = Lib.join (((l.take i).map (·.f1)).map (·.data.toList)) [32] →
    penduleref01_Spell.l0 k l acc (i : Int) = some ⟨(spellL l).toArray⟩ := by
  induction d with
  | zero =>
    intro k i acc hi hd hk ha
    obtain ⟨k, rfl⟩ : ∃ m, k = m + 1 := ⟨k - 1, by omega⟩
    have l1 : ¬ (i : Int) < (l.length : Int) := by omega
    rw [penduleref01_Spell.l0, if_neg l1]
    rw [List.take_of_length_le (by omega)] at ha
    exact congrArg some (data_inj ha)
  | succ d ih =>
    intro k i acc hi hd hk ha
    obtain ⟨k, rfl⟩ : ∃ m, k = m + 1 := ⟨k - 1, by omega⟩
    have hil : i < l.length := by omega
    have l1 : (i : Int) < (l.length : Int) := by omega
    have l2 : (0 : Int) ≤ (i : Int) := by omega
    have l4 : (i : Int) < 9223372036854775807 := by omega
    have cc : ((i + 1 : Nat) : Int) = (i : Int) + 1 := by omega
    have hrd : rd_T32 l (i : Int) = l[i] := by unfold rd_T32; simp [hil]
    have htk : ((l.take (i + 1)).map (·.f1)).map (·.data.toList) = ((l.take i).map (·.f1)).map (·.data.toList) ++ [l[i].f1.data.toList] := by
      rw [List.take_succ_eq_append_getElem hil, List.map_append, List.map_append]; rfl
    have hm := join_more (((l.take i).map (·.f1)).map (·.data.toList)) l[i].f1.data.toList
    have hpre := join_prefix ((l.map (·.f1)).map (·.data.toList)) (l.length - (i + 1)) (by simp)
    have hpe : ((l.map (·.f1)).map (·.data.toList)).take (((l.map (·.f1)).map (·.data.toList)).length - (l.length - (i + 1))) = ((l.take (i + 1)).map (·.f1)).map (·.data.toList) := by
      rw [show ((l.map (·.f1)).map (·.data.toList)).length - (l.length - (i + 1)) = i + 1 by simp; omega, List.map_take, List.map_take]
    rw [hpe, htk] at hpre
    have hS' : (Lib.join ((l.map (·.f1)).map (·.data.toList)) [32]).length ≤ 140737488355328 := hS
    rw [← ha, data_length, data_length] at hm
    rw [penduleref01_Spell.l0, if_pos l1, hrd, wrap_add l2 l4, ← cc]
    by_cases h0 : i = 0
    · subst h0
      have n1 : ¬ ((0 : Nat) : Int) > 0 := by omega
      have n2 : acc.size + l[0].f1.size ≤ 9223372036854775807 := by omega
      rw [if_neg n1, if_pos l2, if_pos n2]
      refine ih k 1 _ (by omega) (by omega) (by omega) ?_
      rw [htk, ByteArray.data_append, Array.toList_append, ha]
      simp [Lib.join, List.intercalate]
    · have n1 : (i : Int) > 0 := by omega
      have hne : ((l.take i).map (·.f1)).map (·.data.toList) ≠ [] := by
        intro e
        have := congrArg List.length e
        rw [List.length_map, List.length_map, List.length_take, List.length_nil] at this; omega
      have hm2 := hm.2 hne
      have n2 : acc.size + 1 ≤ 9223372036854775807 := by omega
      have n3 : (acc ++ (⟨#[32]⟩ : ByteArray)).size + l[i].f1.size ≤ 9223372036854775807 := by rw [ByteArray.size_append]; show acc.size + 1 + l[i].f1.size ≤ _; omega
      rw [if_pos n1, if_pos n2, if_pos l2, if_pos n3]
      refine ih k (i + 1) _ (by omega) (by omega) (by omega) ?_
      rw [htk, join_snoc _ _ hne, ByteArray.data_append, Array.toList_append, ByteArray.data_append, Array.toList_append, ha]
      simp
theorem refspell_eq (l : List S32) (hl : l.length ≤ 2932031007402) (hS : (spellL l).length ≤ 140737488355328) (k : Nat) (hk : l.length < k) : penduleref01_Spell.f k l = some ⟨(spellL l).toArray⟩ := by
  have := refspell_tells l hl hS l.length k 0 ⟨#[]⟩ (by omega) (by omega) hk rfl
  exact this

/-! ### The law -/
theorem scanFrom_err (t : ByteArray) (d : Nat) : ∀ (a : Nat) (out : List S32), (scanFrom t d a out).2.1 = 2 → (scanFrom t d a out).1 = [] := by
  induction d with
  | zero => intro a out h; rfl
  | succ d ih =>
    intro a out h
    rw [scanFrom] at h ⊢
    split
    · rename_i e; rw [if_pos e] at h; simp at h
    · rename_i e
      rw [if_neg e] at h
      split
      · rename_i e2; rw [if_pos e2] at h; exact ih _ _ h
      · rfl
theorem spell_len (n : Nat) : ∀ (l : List UInt8) (la : List Plain), l.length = n → scanV l = some la → (Lib.join (la.map fun q => q.2.1.data.toList) [32]).length ≤ 2 * l.length := by
  induction n using Nat.strongRecOn with
  | _ n ih =>
    intro l la hln h
    rw [scanV_eq] at h
    have hlen : (l.drop (gapL false l)).length ≤ l.length := by rw [List.length_drop]; omega
    generalize l.drop (gapL false l) = r at h hlen
    by_cases hr : r = []
    · rw [if_pos hr] at h
      rw [← Option.some.inj h]
      simp [Lib.join, List.intercalate]
    · rw [if_neg hr] at h
      by_cases hq : (tokOf (barr r)).2.2.2 = true
      · obtain ⟨p1, p2⟩ := tok_pos r hr hq
        rw [if_pos hq] at h
        obtain ⟨lc, hlc, hla⟩ := Option.map_eq_some_iff.mp h
        have hrec := ih (r.drop (tokOf (barr r)).2.1.size).length (by rw [List.length_drop]; have := List.length_pos_iff.mpr hr; omega) _ lc rfl hlc
        have hne := scanV_ne _ _ hlc
        rw [List.length_drop] at hrec
        rw [← hla, List.map_cons, join_two _ _ (by simpa using hne)]
        simp only [List.length_append, List.length_cons]
        rw [data_length]
        omega
      · rw [if_neg hq] at h; cases h
theorem spellL_plain (l : List S32) : spellL l = Lib.join ((plainOf l).map fun q => q.2.1.data.toList) [32] := by
  unfold spellL plainOf
  rw [List.map_map, List.map_map]; rfl
theorem alike_more (l0 l1 : List S32) (k n : Nat) (h : penduleref01_Alike.f k l0 l1 = some true) : penduleref01_Alike.f (k + n) l0 l1 = some true := by
  induction n with
  | zero => exact h
  | succ n ih => exact penduleref01_Alike.mono _ _ _ _ ih

theorem pureSpells (l0 : List S32) (a1 : ByteArray) (h1 : l0.length ≤ 2932031007402) (h2 : (spellL l0).length ≤ 140737488355328) : ∃ k, PScan.pendulelaw01_ScanSpells.f k l0 a1 = some true := by
  have hS0 : PScan.scan_Spell.f l0 = some ⟨(spellL l0).toArray⟩ := by unfold PScan.scan_Spell.f; rw [if_pos ⟨h1, h2⟩]
  have hf : ∀ k, l0.length < k → PScan.pendulelaw01_ScanSpells.j0 k a1 false = some true → PScan.pendulelaw01_ScanSpells.f k l0 a1 = some true := by
    intro k hk hj
    unfold PScan.pendulelaw01_ScanSpells.f
    rw [hS0, refspell_eq l0 h1 h2 k hk]
    simp only [PScan.pendulelaw01_lives.f, Option.bind_some, if_true, bne_self_eq_false]
    exact hj
  by_cases hz : a1.size ≤ 65536
  · have pa := scanOf_plain a1 hz
    have la := scanOf_len a1
    cases hv : scanV a1.data.toList with
    | none =>
      rw [hv] at pa
      have he : (scanOf a1).1 = [] := by
        have hn : ¬ (a1.size : Int) > 65536 := by omega
        have ho : scanOf a1 = scanFrom a1 (a1.size + 1) 0 [] := by unfold scanOf; rw [if_neg hn]
        rw [ho] at pa ⊢
        exact scanFrom_err _ _ _ _ pa
      refine ⟨l0.length + (3 * a1.size + 5) + 1, hf _ (by omega) ?_⟩
      have n2 : ¬ (scanOf a1).2.1 = 0 := by rw [pa]; decide
      rw [PScan.pendulelaw01_ScanSpells.j0, if_neg Bool.false_ne_true, scan_eq a1 _ (by omega), Option.bind_some, if_neg n2, he]
      rfl
    | some xa =>
      rw [hv] at pa
      obtain ⟨p1, p2⟩ := pa
      have hsp : spellL (scanOf a1).1 = Lib.join (xa.map fun q => q.2.1.data.toList) [32] := by rw [spellL_plain, p2]
      have hlen := spell_len _ _ _ rfl hv
      have hscan := scanV_spells _ _ _ rfl hv
      rw [← hsp] at hlen hscan
      rw [data_length] at hlen
      have hS : PScan.scan_Spell.f (scanOf a1).1 = some (barr (spellL (scanOf a1).1)) := by unfold PScan.scan_Spell.f; rw [if_pos ⟨by omega, by omega⟩]; rfl
      have hbs := barr_size (spellL (scanOf a1).1)
      have n0 : (scanOf a1).2.1 = 0 := by rw [p1]
      by_cases hbig : ((barr (spellL (scanOf a1).1)).size : Int) > 65536
      · refine ⟨l0.length + (3 * a1.size + 5) + 1, hf _ (by omega) ?_⟩
        rw [PScan.pendulelaw01_ScanSpells.j0, if_neg Bool.false_ne_true, scan_eq a1 _ (by omega), Option.bind_some, if_pos n0, hS, Option.bind_some, if_pos hbig]
      · have pb := scanOf_plain (barr (spellL (scanOf a1).1)) (by omega)
        rw [barr_data, hscan] at pb
        simp only at pb
        obtain ⟨q1, q2⟩ := pb
        obtain ⟨k, hk⟩ := alike_plain (scanOf a1).1 (scanOf (barr (spellL (scanOf a1).1))).1 (by rw [p2, q2]) (by omega)
        refine ⟨k + (l0.length + (3 * a1.size + 3 * (barr (spellL (scanOf a1).1)).size + 5)) + 1, hf _ (by omega) ?_⟩
        rw [PScan.pendulelaw01_ScanSpells.j0, if_neg Bool.false_ne_true, scan_eq a1 _ (by omega), Option.bind_some, if_pos n0, hS, Option.bind_some, if_neg hbig, scan_eq _ _ (by omega), Option.bind_some, q1]
        simp only [beq_self_eq_true, Bool.and_self, if_true]
        rw [alike_more _ _ _ _ hk, Option.bind_some]
  · refine ⟨l0.length + (3 * a1.size + 5) + 1, hf _ (by omega) ?_⟩
    have he : scanOf a1 = ([], 9, 0, 0) := by unfold scanOf; rw [if_pos (by omega)]
    have n2 : ¬ ((9 : Int) = 0) := by decide
    rw [PScan.pendulelaw01_ScanSpells.j0, if_neg Bool.false_ne_true, scan_eq a1 _ (by omega), Option.bind_some, he]
    simp only
    rw [if_neg n2]
    rfl
end Go.Proofs.YtffeikfffmonkaaDoor
