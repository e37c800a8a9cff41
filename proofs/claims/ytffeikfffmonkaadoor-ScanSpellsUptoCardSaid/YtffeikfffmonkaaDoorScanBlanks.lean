/- Plain law: two texts with blanks and a note between them scan as the one and the other. -/
import Derived.Test.YtffeikfffmonkaaDoorScanBlanksW
namespace Go.Proofs.YtffeikfffmonkaaDoor
open Go Go.RowKit Go.Lib Go.Proofs.YtffeikfffmonkaaDoorW.PrintWords Go.Proofs.YtffeikfffmonkaaDoorW.PrintMore PScan
set_option maxRecDepth 100000
set_option linter.unusedSimpArgs false
set_option linter.unusedVariables false

def barr (l : List UInt8) : ByteArray := ⟨l.toArray⟩
theorem barr_data (l : List UInt8) : (barr l).data.toList = l := rfl
theorem barr_size (l : List UInt8) : (barr l).size = l.length := by rw [← data_length, barr_data]
theorem extract_barr (t : ByteArray) (b : Nat) : t.extract b t.size = barr (rest t b) := data_inj (by rw [extract_rest, barr_data])

abbrev Plain := Int × ByteArray × Int
def plainOf (l : List S32) : List Plain := l.map fun x => (x.f0, x.f1, x.f2)
/-- The tokens of a text, without their places. -/
def scanL : Nat → List UInt8 → Option (List Plain)
  | 0, _ => none
  | f + 1, l =>
    if l.drop (gapL false l) = [] then some [((6 : Int), (⟨#[]⟩ : ByteArray), (0 : Int))]
    else if (tokOf (barr (l.drop (gapL false l)))).2.2.2 = true then
      (scanL f ((l.drop (gapL false l)).drop (tokOf (barr (l.drop (gapL false l)))).2.1.size)).map fun r => ((tokOf (barr (l.drop (gapL false l)))).1, (tokOf (barr (l.drop (gapL false l)))).2.1, (tokOf (barr (l.drop (gapL false l)))).2.2.1) :: r
    else none

theorem tok_pos (r : List UInt8) (h : r ≠ []) (hq : (tokOf (barr r)).2.2.2 = true) : 0 < (tokOf (barr r)).2.1.size ∧ (tokOf (barr r)).2.1.size ≤ r.length := by
  have hl : 0 < r.length := List.length_pos_iff.mpr h
  have := tokOf_ok (barr r) (by rw [barr_size]; exact hl) hq
  rw [barr_size] at this
  exact ⟨this.1, this.2.1⟩

theorem scanL_fuel : ∀ (f g : Nat) (l : List UInt8), l.length < f → l.length < g → scanL f l = scanL g l := by
  intro f
  induction f with
  | zero => intro g l h; omega
  | succ f ih =>
    intro g l h1 h2
    obtain ⟨g, rfl⟩ : ∃ m, g = m + 1 := ⟨g - 1, by omega⟩
    rw [scanL, scanL]
    have hle := gapL_le false l
    have hlen : (l.drop (gapL false l)).length ≤ l.length := by rw [List.length_drop]; omega
    generalize l.drop (gapL false l) = r at hlen
    by_cases hr : r = []
    · rw [if_pos hr, if_pos hr]
    · rw [if_neg hr, if_neg hr]
      by_cases hq : (tokOf (barr r)).2.2.2 = true
      · obtain ⟨p1, p2⟩ := tok_pos r hr hq
        rw [if_pos hq, if_pos hq, ih g _ (by rw [List.length_drop]; omega) (by rw [List.length_drop]; omega)]
      · rw [if_neg hq, if_neg hq]
def scanV (l : List UInt8) : Option (List Plain) := scanL (l.length + 1) l
theorem scanV_eq (l : List UInt8) : scanV l =
    if l.drop (gapL false l) = [] then some [((6 : Int), (⟨#[]⟩ : ByteArray), (0 : Int))]
    else if (tokOf (barr (l.drop (gapL false l)))).2.2.2 = true then
      (scanV ((l.drop (gapL false l)).drop (tokOf (barr (l.drop (gapL false l)))).2.1.size)).map fun r => ((tokOf (barr (l.drop (gapL false l)))).1, (tokOf (barr (l.drop (gapL false l)))).2.1, (tokOf (barr (l.drop (gapL false l)))).2.2.1) :: r
    else none := by
  unfold scanV
  rw [scanL]
  have hle := gapL_le false l
  have hlen : (l.drop (gapL false l)).length ≤ l.length := by rw [List.length_drop]; omega
  generalize l.drop (gapL false l) = r at hlen
  by_cases hr : r = []
  · rw [if_pos hr, if_pos hr]
  · rw [if_neg hr, if_neg hr]
    by_cases hq : (tokOf (barr r)).2.2.2 = true
    · obtain ⟨p1, p2⟩ := tok_pos r hr hq
      rw [if_pos hq, if_pos hq, scanL_fuel l.length ((r.drop (tokOf (barr r)).2.1.size).length + 1) _ (by rw [List.length_drop]; have := List.length_pos_iff.mpr hr; omega) (by omega)]
    · rw [if_neg hq, if_neg hq]
theorem scanV_ne (l : List UInt8) (r : List Plain) (h : scanV l = some r) : r ≠ [] := by
  rw [scanV_eq] at h
  generalize l.drop (gapL false l) = s at h
  by_cases hs : s = []
  · rw [if_pos hs] at h; rw [← Option.some.inj h]; simp
  · rw [if_neg hs] at h
    by_cases hq : (tokOf (barr s)).2.2.2 = true
    · rw [if_pos hq] at h
      obtain ⟨y, _, hy⟩ := Option.map_eq_some_iff.mp h
      rw [← hy]; simp
    · rw [if_neg hq] at h; cases h

/-- Scan's tokens without their places. -/
theorem scanFrom_plain (t : ByteArray) (d : Nat) : ∀ (a : Nat) (out : List S32), a ≤ t.size → t.size - a < d →
    match scanV (rest t a) with
    | some l => (scanFrom t d a out).2 = (0, 0, 0) ∧ plainOf (scanFrom t d a out).1 = plainOf out ++ l
    | none => (scanFrom t d a out).2.1 = 2 := by
  induction d with
  | zero => intro a out ha hd; omega
  | succ d ih =>
    intro a out ha hd
    have hb := gapEnd_le t a ha
    have hba : a ≤ gapEnd t a := by unfold gapEnd; omega
    have hr : (rest t a).drop (gapL false (rest t a)) = rest t (gapEnd t a) := by rw [rest_rest]; rfl
    rw [scanV_eq, scanFrom, hr]
    generalize gapEnd t a = b at hb hba ⊢
    have hlen := rest_len t b
    by_cases e : b = t.size
    · rw [if_pos (List.eq_nil_of_length_eq_zero (by omega)), if_pos e]
      exact ⟨rfl, by simp [plainOf]⟩
    · have hne : rest t b ≠ [] := fun h => by rw [h] at hlen; simp at hlen; omega
      rw [if_neg hne, if_neg e, extract_barr]
      by_cases hq : (tokOf (barr (rest t b))).2.2.2 = true
      · obtain ⟨p1, p2⟩ := tok_pos _ hne hq
        rw [if_pos hq, if_pos hq]
        generalize tokOf (barr (rest t b)) = q at p1 p2
        rw [rest_rest]
        have := ih (b + q.2.1.size) (out ++ [(⟨q.1, q.2.1, q.2.2.1, (placeAt t b).1, (placeAt t b).2⟩ : S32)]) (by omega) (by omega)
        cases hv : scanV (rest t (b + q.2.1.size)) with
        | none => rw [hv] at this; exact this
        | some l =>
          rw [hv] at this
          exact ⟨this.1, by rw [this.2]; simp [plainOf]⟩
      · rw [if_neg hq, if_neg hq]

theorem scanOf_plain (t : ByteArray) (h : t.size ≤ 65536) :
    match scanV t.data.toList with
    | some l => (scanOf t).2 = (0, 0, 0) ∧ plainOf (scanOf t).1 = l
    | none => (scanOf t).2.1 = 2 := by
  have hz : ¬ (t.size : Int) > 65536 := by omega
  have ho : scanOf t = scanFrom t (t.size + 1) 0 [] := by unfold scanOf; rw [if_neg hz]
  have := scanFrom_plain t (t.size + 1) 0 [] (by omega) (by omega)
  rw [show rest t 0 = t.data.toList from List.drop_zero] at this
  rw [ho]
  exact this

/-! ### A new line ends a token -/
theorem takeWhile_stop {α : Type} (p : α → Bool) (c : α) (hc : p c = false) (Y : List α) : ∀ l : List α, (l ++ c :: Y).takeWhile p = l.takeWhile p
  | [] => by simp [List.takeWhile_cons, hc]
  | a :: l => by
    rw [List.cons_append, List.takeWhile_cons, List.takeWhile_cons, takeWhile_stop p c hc Y l]
theorem spanN_stop (p : Int → Bool) (hp : p 10 = false) (r Y : List UInt8) : spanN p (barr (r ++ 10 :: Y)) = spanN p (barr r) := by
  rw [spanN_list, spanN_list, barr_data, barr_data, takeWhile_stop (fun c : UInt8 => p (c.toNat : Int)) 10 hp Y r]
theorem head_stop (r Y : List UInt8) (n : Nat) (hn : n ≤ r.length) : headOf (barr (r ++ 10 :: Y)) n = headOf (barr r) n :=
  data_inj (by rw [headOf_data, headOf_data, barr_data, barr_data, List.take_append_of_le_length hn])
theorem bt_stop (r Y : List UInt8) (h : r ≠ []) : bt (barr (r ++ 10 :: Y)) 0 = bt (barr r) 0 := by
  cases r with
  | nil => exact absurd rfl h
  | cons c r =>
    have e1 := bt_get (barr (c :: r ++ 10 :: Y)) 0 (by rw [barr_data]; simp)
    have e2 := bt_get (barr (c :: r)) 0 (by rw [barr_data]; simp)
    rw [show ((0 : Nat) : Int) = 0 from rfl] at e1 e2
    rw [e1, e2]; rfl
theorem prefix_stop : ∀ (x r Y : List UInt8), (∀ c ∈ x, c.toNat ≠ 10) → x.isPrefixOf (r ++ 10 :: Y) = x.isPrefixOf r
  | [], r, Y, _ => by simp
  | c :: x, [], Y, h => by
    have : ¬ c = 10 := fun e => h c (by simp) (by rw [e]; rfl)
    simp [List.isPrefixOf, this]
  | c :: x, d :: r, Y, h => by
    rw [List.cons_append, List.isPrefixOf, List.isPrefixOf, prefix_stop x r Y (fun e he => h e (by simp [he]))]
theorem find_same {α : Type} (p q : α → Bool) : ∀ L : List α, (∀ x ∈ L, p x = q x) → L.find? p = L.find? q
  | [], _ => rfl
  | a :: L, h => by rw [List.find?_cons, List.find?_cons, h a (by simp), find_same p q L (fun x hx => h x (by simp [hx]))]
theorem sign_stop (r Y : List UInt8) : signOf (barr (r ++ 10 :: Y)) = signOf (barr r) := by
  unfold signOf
  refine find_same _ _ _ (fun x hx => ?_)
  unfold Lib.hasPrefix
  rw [barr_data, barr_data]
  exact prefix_stop _ _ _ (sign_pos x hx).2
theorem tok_stop (r Y : List UInt8) (h : r ≠ []) : tokOf (barr (r ++ 10 :: Y)) = tokOf (barr r) := by
  have hd := spanN_le digitB (barr r)
  have hi := spanN_le innerB (barr r)
  rw [barr_size] at hd hi
  unfold tokOf numOk
  rw [bt_stop r Y h, spanN_stop digitB (by decide) r Y, spanN_stop innerB (by decide) r Y, head_stop r Y _ hd, head_stop r Y _ hi, sign_stop r Y]

theorem gap_stop : ∀ (l Y : List UInt8) (b : Bool), gapL b (l ++ 10 :: Y) = if gapL b l = l.length then l.length + gapL false (10 :: Y) else gapL b l
  | [], Y, false => by simp [gapL]
  | [], Y, true => by
    have e1 : gapL true (10 :: Y) = 1 + gapL false Y := by rw [gapL, if_pos (by decide)]
    have e2 : gapL false (10 :: Y) = 1 + gapL false Y := by rw [gapL, if_pos (by decide)]
    rw [List.nil_append, e1, e2]; simp [gapL]
  | c :: l, Y, true => by
    have h1 := gap_stop l Y false
    have h2 := gap_stop l Y true
    have e1 : gapL true (c :: (l ++ 10 :: Y)) = if c.toNat = 10 then 1 + gapL false (l ++ 10 :: Y) else 1 + gapL true (l ++ 10 :: Y) := by rw [gapL]
    have e2 : gapL true (c :: l) = if c.toNat = 10 then 1 + gapL false l else 1 + gapL true l := by rw [gapL]
    rw [List.cons_append, e1, e2, List.length_cons, h1, h2]
    generalize gapL false (10 :: Y) = gy
    generalize gapL false l = g1
    generalize gapL true l = g2
    by_cases hc : c.toNat = 10
    · rw [if_pos hc, if_pos hc]
      by_cases hg : g1 = l.length
      · rw [if_pos hg, if_pos (by omega)]; omega
      · rw [if_neg hg, if_neg (by omega)]
    · rw [if_neg hc, if_neg hc]
      by_cases hg : g2 = l.length
      · rw [if_pos hg, if_pos (by omega)]; omega
      · rw [if_neg hg, if_neg (by omega)]
  | c :: l, Y, false => by
    have h1 := gap_stop l Y false
    have h2 := gap_stop l Y true
    have hh : ((l ++ 10 :: Y).head?.map (·.toNat)) = some 45 ↔ (l.head?.map (·.toNat)) = some 45 := by
      cases l with
      | nil => simp
      | cons d l => simp
    have e1 : gapL false (c :: (l ++ 10 :: Y)) = if blankB (c.toNat : Int) = true then 1 + gapL false (l ++ 10 :: Y) else if c.toNat = 45 ∧ (l ++ 10 :: Y).head?.map (·.toNat) = some 45 then 1 + gapL true (l ++ 10 :: Y) else 0 := by rw [gapL]
    have e2 : gapL false (c :: l) = if blankB (c.toNat : Int) = true then 1 + gapL false l else if c.toNat = 45 ∧ l.head?.map (·.toNat) = some 45 then 1 + gapL true l else 0 := by rw [gapL]
    rw [List.cons_append, e1, e2, List.length_cons, h1, h2]
    generalize gapL false (10 :: Y) = gy
    generalize gapL false l = g1
    generalize gapL true l = g2
    by_cases hb : blankB (c.toNat : Int) = true
    · rw [if_pos hb, if_pos hb]
      by_cases hg : g1 = l.length
      · rw [if_pos hg, if_pos (by omega)]; omega
      · rw [if_neg hg, if_neg (by omega)]
    · rw [if_neg hb, if_neg hb]
      by_cases hn : c.toNat = 45 ∧ (l.head?.map (·.toNat)) = some 45
      · rw [if_pos ⟨hn.1, hh.mpr hn.2⟩, if_pos hn]
        by_cases hg : g2 = l.length
        · rw [if_pos hg, if_pos (by omega)]; omega
        · rw [if_neg hg, if_neg (by omega)]
      · rw [if_neg (fun x => hn ⟨x.1, hh.mp x.2⟩), if_neg hn, if_neg (by omega)]

def midL (note : List UInt8) : List UInt8 := 32 :: 45 :: 45 :: 32 :: (note ++ [10, 9])
theorem gap_noteL : ∀ (note u : List UInt8), (∀ c ∈ note, c.toNat ≠ 10) → gapL true (note ++ 10 :: 9 :: u) = note.length + 2 + gapL false u
  | [], u, _ => by
    rw [List.nil_append, gapL, if_pos (by decide), gapL, if_pos (by decide)]; simp; omega
  | c :: note, u, h => by
    rw [List.cons_append, gapL, if_neg (h c (by simp)), gap_noteL note u (fun d hd => h d (by simp [hd])), List.length_cons]; omega
theorem gap_mid (note u : List UInt8) (h : ∀ c ∈ note, c.toNat ≠ 10) : gapL false (10 :: (midL note ++ u)) = (10 :: midL note).length + gapL false u := by
  have e : midL note ++ u = 32 :: 45 :: 45 :: 32 :: (note ++ 10 :: 9 :: u) := by simp [midL]
  have hl : (10 :: midL note).length = note.length + 7 := by simp [midL]
  rw [e, hl, gapL, if_pos (by decide), gapL, if_pos (by decide), gapL, if_neg (by decide), if_pos ⟨by decide, by rfl⟩, gapL, if_neg (by decide), gapL, if_neg (by decide), gap_noteL note u h]
  omega

theorem scanV_joins (note u : List UInt8) (hn : ∀ c ∈ note, c.toNat ≠ 10) (n : Nat) : ∀ (l : List UInt8) (la : List Plain), l.length = n → scanV l = some la →
    scanV (l ++ 10 :: (midL note ++ u)) = (scanV u).map fun lb => la.dropLast ++ lb := by
  induction n using Nat.strongRecOn with
  | _ n ih =>
    intro l la hln h
    have hle := gapL_le false l
    have hg := gap_stop l (midL note ++ u) false
    rw [scanV_eq] at h
    by_cases hr : l.drop (gapL false l) = []
    · rw [if_pos hr] at h
      have hgl : gapL false l = l.length := by
        have := congrArg List.length hr
        rw [List.length_drop, List.length_nil] at this; omega
      rw [if_pos hgl, gap_mid note u hn] at hg
      have hdr : (l ++ 10 :: (midL note ++ u)).drop (l.length + ((10 :: midL note).length + gapL false u)) = u.drop (gapL false u) := by
        rw [← List.drop_drop, List.drop_left, ← List.cons_append, ← List.drop_drop, List.drop_left]
      rw [← Option.some.inj h, scanV_eq (l ++ 10 :: (midL note ++ u)), hg, hdr, ← scanV_eq u]
      simp
    · rw [if_neg hr] at h
      have hgl : ¬ gapL false l = l.length := fun e => hr (by rw [e]; exact List.drop_length ..)
      rw [if_neg hgl] at hg
      have hdr : (l ++ 10 :: (midL note ++ u)).drop (gapL false l) = l.drop (gapL false l) ++ 10 :: (midL note ++ u) := List.drop_append_of_le_length hle
      rw [scanV_eq (l ++ 10 :: (midL note ++ u)), hg, hdr]
      have hlen : (l.drop (gapL false l)).length ≤ l.length := by rw [List.length_drop]; omega
      generalize l.drop (gapL false l) = r at hr h hlen ⊢
      rw [if_neg (by simp), tok_stop r _ hr]
      by_cases hq : (tokOf (barr r)).2.2.2 = true
      · obtain ⟨p1, p2⟩ := tok_pos r hr hq
        rw [if_pos hq] at h ⊢
        obtain ⟨lc, hlc, hla⟩ := Option.map_eq_some_iff.mp h
        have hd2 : (r ++ 10 :: (midL note ++ u)).drop (tokOf (barr r)).2.1.size = r.drop (tokOf (barr r)).2.1.size ++ 10 :: (midL note ++ u) := List.drop_append_of_le_length p2
        rw [hd2, ih (r.drop (tokOf (barr r)).2.1.size).length (by rw [List.length_drop]; omega) _ lc rfl hlc, ← hla]
        have hne := scanV_ne _ _ hlc
        cases scanV u with
        | none => rfl
        | some lb => simp [List.dropLast_cons_of_ne_nil hne]
      · rw [if_neg hq] at h; cases h

theorem alike_tells (l0 l1 : List S32) (hlen : l0.length = l1.length) (hp : ∀ i, i < l0.length → (rd_T32 l0 (i : Int)).f0 = (rd_T32 l1 (i : Int)).f0 ∧ (rd_T32 l0 (i : Int)).f1 = (rd_T32 l1 (i : Int)).f1 ∧ (rd_T32 l0 (i : Int)).f2 = (rd_T32 l1 (i : Int)).f2)
    (hb : l0.length ≤ 9223372036854775806) (d : Nat) : ∀ (k i : Nat), i ≤ l0.length → l0.length - i = d → d < k → penduleref01_Alike.l0 k l0 l1 (i : Int) = some true := by
  induction d with
  | zero =>
    intro k i hi hd hk
    obtain ⟨k, rfl⟩ : ∃ m, k = m + 1 := ⟨k - 1, by omega⟩
    have l1 : ¬ (i : Int) < (l0.length : Int) := by omega
    rw [penduleref01_Alike.l0, if_neg l1]
  | succ d ih =>
    intro k i hi hd hk
    obtain ⟨k, rfl⟩ : ∃ m, k = m + 1 := ⟨k - 1, by omega⟩
    have m1 : (i : Int) < (l0.length : Int) := by omega
    have m2 : (0 : Int) ≤ (i : Int) := by omega
    have m3 : (i : Int) < (l1.length : Int) := by omega
    have m4 : (i : Int) < 9223372036854775807 := by omega
    have cc : ((i + 1 : Nat) : Int) = (i : Int) + 1 := by omega
    obtain ⟨h0, h1, h2⟩ := hp i (by omega)
    rw [penduleref01_Alike.l0, if_pos m1, if_pos m2, if_pos m3, if_pos h0, if_pos (by rw [h1]), if_pos h2, wrap_add m2 m4, ← cc]
    exact ih k (i + 1) (by omega) (by omega) (by omega)
theorem alike_plain (l0 l1 : List S32) (h : plainOf l0 = plainOf l1) (hb : l0.length ≤ 9223372036854775806) : ∃ k, penduleref01_Alike.f k l0 l1 = some true := by
  have hlen : l0.length = l1.length := by have := congrArg List.length h; simpa [plainOf] using this
  refine ⟨l0.length + 1, ?_⟩
  unfold penduleref01_Alike.f
  rw [if_pos (by omega)]
  refine alike_tells l0 l1 hlen (fun i hi => ?_) hb l0.length (l0.length + 1) 0 (by omega) (by omega) (by omega)
  have hi1 : i < l1.length := by omega
  have hg : (plainOf l0)[i]? = (plainOf l1)[i]? := by rw [h]
  simp only [plainOf, List.getElem?_map, List.getElem?_eq_getElem hi, List.getElem?_eq_getElem hi1, Option.map_some, Option.some.injEq, Prod.mk.injEq] at hg
  have r0 : rd_T32 l0 (i : Int) = l0[i] := by unfold rd_T32; simp [hi]
  have r1 : rd_T32 l1 (i : Int) = l1[i] := by unfold rd_T32; simp [hi1]
  rw [r0, r1]; exact hg

theorem pureBlanks : BlanksPure := by
  intro a b note hn ha hb ht
  have hdata : (blankText a b note).data.toList = a.data.toList ++ 10 :: (midL note.data.toList ++ b.data.toList) := by
    unfold blankText midL
    simp [ByteArray.data_append]
  have hsz : (blankText a b note).size = a.size + 7 + note.size + b.size := by
    rw [← data_length, hdata]
    simp only [List.length_append, List.length_cons, midL, data_length, List.length_nil]; omega
  have hnote : ∀ c ∈ note.data.toList, c.toNat ≠ 10 := by
    intro c hc he
    obtain ⟨j, hj, hcj⟩ := List.getElem_of_mem hc
    have h1 := bt_get note j hj
    rw [data_length] at hj
    refine hn j hj ?_
    rw [h1, hcj, he]; rfl
  have pa := scanOf_plain a (by omega)
  have pb := scanOf_plain b (by omega)
  have pt := scanOf_plain (blankText a b note) ht
  have la := scanOf_len a
  have lb := scanOf_len b
  have lt := scanOf_len (blankText a b note)
  rw [hdata] at pt
  cases hva : scanV a.data.toList with
  | none => rw [hva] at pa; rw [pa] at ha; cases ha
  | some xa =>
    cases hvb : scanV b.data.toList with
    | none => rw [hvb] at pb; rw [pb] at hb; cases hb
    | some xb =>
      rw [hva] at pa
      rw [hvb] at pb
      rw [scanV_joins note.data.toList b.data.toList hnote _ a.data.toList xa rfl hva, hvb] at pt
      simp only [Option.map_some] at pt pa pb
      have hne := scanV_ne _ _ hva
      have hlen : (scanOf a).1.length = xa.length := by rw [← pa.2]; simp [plainOf]
      have hpos : 0 < xa.length := List.length_pos_iff.mpr hne
      refine ⟨by omega, by omega, by omega, pt.1, alike_plain _ _ ?_ (by omega)⟩
      rw [pt.2]
      have : plainOf ((scanOf a).1.take ((scanOf a).1.length - 1) ++ (scanOf b).1) = (plainOf (scanOf a).1).take ((scanOf a).1.length - 1) ++ plainOf (scanOf b).1 := by simp [plainOf]
      rw [this, pa.2, pb.2, hlen, List.dropLast_eq_take]

theorem scanBlanks_calls (a b note : ByteArray) (w : World) (ha : a.size ≤ 140737488351232) (hb : b.size ≤ 140737488351232) (hn : note.size ≤ 140737488351232) (hL : Laid w) :
    Calls Tryd.prog 5 #[.string a, .string b, .string note] w fun e w' => e = .returned (.bool true) ∧ Below w.heap.size w w' :=
  scanBlanks_walk pureBlanks a b note ha hb hn w hL
end Go.Proofs.YtffeikfffmonkaaDoor
