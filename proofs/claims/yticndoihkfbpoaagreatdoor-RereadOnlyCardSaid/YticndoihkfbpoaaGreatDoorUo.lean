/- Package reread: Words: a range over strings.FieldsFuncSeq; in plain Lean first: what the library's walk by runes is, byte by byte. -/
import Derived.RangeFuncBox
import Derived.RangeFuncLeaves
import Derived.OwnWalkIn
import Derived.TacticsInMore
import Derived.LoopNIn
import Derived.LoopIn
import Derived.Lib.SpaceUEq
import Derived.Lib.TrimUEq
import Derived.Laws.RangeAny
import Derived.Shelf.Unicode.DecodeLastEight
import Derived.Test.YticndoihkfbpoaaGreatDoorUc
namespace Go.Proofs.YticndoihkfbpoaaGreatDoor
open Go Go.RowKit Go.Lib Go.Shelf Go.Proofs.YticndoihkfbpoaaGreatDoorW.PrintWords Go.Proofs.YticndoihkfbpoaaGreatDoor.PScope
set_option maxRecDepth 100000
set_option linter.unusedSimpArgs false
set_option linter.unusedVariables false
attribute [local go_sem] Oper.semAt_some
theorem words_blank (b : UInt8) (r c : List UInt8) (h : blankB b.toNat = true) : wordsL (b :: r) c = if c = [] then wordsL r [] else ⟨c.toArray⟩ :: wordsL r [] := by
 simp only [wordsL, h, if_true]
theorem words_skip : ∀ (z : Nat) (l c : List UInt8), z ≤ l.length → (∀ j (h : j < l.length), j < z → blankB (l[j]).toNat = false) → wordsL l c = wordsL (l.drop z) (c ++ l.take z)
 | 0, l, c, _, _ => by simp
 | z + 1, [], c, h, _ => by simp at h
 | z + 1, b :: t, c, h, hz => by
  have h0 := hz 0 (by simp) (by omega)
  simp only [List.getElem_cons_zero] at h0
  have h1 : wordsL (b :: t) c = wordsL t (c ++ [b]) := by simp only [wordsL, h0, if_neg Bool.false_ne_true]
  rw [h1, words_skip z t (c ++ [b]) (by simp at h; omega) (fun j hj hjz => by have := hz (j + 1) (by simp; omega) (by omega); simpa using this)]
  simp
theorem words_length : ∀ (l c : List UInt8), (wordsL l c).length ≤ l.length + 1
 | [], c => by unfold wordsL; split <;> simp
 | b :: r, c => by
  unfold wordsL
  split
  ·split
   ·have := words_length r []; simp; omega
   ·have := words_length r []; simp; omega
  ·have := words_length r (c ++ [b]); simp; omega
theorem blank_high {n : Nat} (h : 128 ≤ n) : blankB n = false := by
 unfold blankB
 have e : ∀ m : Nat, m < 128 → (n == m) = false := fun m hm => beq_eq_false_iff_ne.2 (by omega)
 rw [e 32 (by omega), e 9 (by omega), e 10 (by omega), e 13 (by omega)]; rfl
theorem ext_cut (s : ByteArray) (a b : Nat) : s.extract a b = ⟨((s.data.toList.drop a).take (b - a)).toArray⟩ := by
 apply ByteArray.ext
 rw [ByteArray.data_extract]
 apply Array.toList_inj.1
 simp [Array.toList_extract, List.extract]
theorem dec_step (s : ByteArray) (i : Nat) (hi : i < s.size) : 1 ≤ (decodeGo (s.extract i s.size)).2 ∧ i + (decodeGo (s.extract i s.size)).2 ≤ s.size ∧ (decodeGo (s.extract i s.size)).1 ≤ 2147483647 ∧
  (∀ h : i < s.data.toList.length, blankB (decodeGo (s.extract i s.size)).1 = blankB (s.data.toList[i]).toNat) ∧ (blankB (decodeGo (s.extract i s.size)).1 = true → (decodeGo (s.extract i s.size)).2 = 1) ∧
  (blankB (decodeGo (s.extract i s.size)).1 = false → ∀ j (h : i + j < s.data.toList.length), j < (decodeGo (s.extract i s.size)).2 → blankB (s.data.toList[i + j]).toNat = false) := by
 have hd : (s.extract i s.size).data.toList = s.data.toList.drop i := extract_to_end s i
 have hs : (s.extract i s.size).size = s.size - i := by
  have := congrArg List.length hd
  rw [List.length_drop, data_length, data_length] at this
  exact this
 generalize ht : s.extract i s.size = t at hd hs
 have h0 : 0 < t.size := by omega
 have he : decodeGo t = Utf8.decode t 0 := by unfold decodeGo; rw [if_neg (by omega)]
 have hle := decodeGo_le_size t
 have hN : Utf8.decode t 0 = _ := decode_N t 0
 have hcs := decodeN_conts (t.data.toList.length - 0) (t.data.toList.getD 0 0).toNat (t.data.toList.getD (0 + 1) 0).toNat (t.data.toList.getD (0 + 2) 0).toNat (t.data.toList.getD (0 + 3) 0).toNat
 rw [← hN, ← he] at hcs
 have hr := decode_le t 0
 rw [← he] at hr
 have hl : s.data.toList.length = s.size := data_length s
 have hget : ∀ j (h : i + j < s.data.toList.length), s.data.toList[i + j] = t.data.toList.getD j 0 := by
  intro j h
  rw [hd, List.getD_eq_getElem?_getD, List.getElem?_drop, List.getElem?_eq_getElem h]; rfl
 have hb0 : (t[0]'h0).toNat = (t.data.toList.getD 0 0).toNat := by
  rw [List.getD_eq_getElem?_getD, List.getElem?_eq_getElem (by rw [data_length]; exact h0)]; rfl
 by_cases ha : (t[0]'h0).toNat < 128
 ·have hdec := decode_ascii t 0 h0 ha
  rw [← he] at hdec
  rw [hdec]
  refine ⟨Nat.le_refl _, by show i + 1 ≤ _; omega, by show (t[0]'h0).toNat ≤ _; omega, ?_, fun _ => rfl, ?_⟩
  ·intro h
   show blankB (t[0]'h0).toNat = _
   have := hget 0 h
   simp only [Nat.add_zero] at this
   rw [this, hb0]
  ·intro hb j h hj
   obtain rfl : j = 0 := by simp at hj; omega
   have := hget 0 h
   rw [this, ← hb0]; exact hb
 ·have hh := decode_high t 0 h0 (by omega)
  rw [← he] at hh
  have hb := blank_high hh.1
  have hall : ∀ j (h : i + j < s.data.toList.length), j < (decodeGo t).2 → 128 ≤ (s.data.toList[i + j]).toNat := by
   intro j h hj
   rw [hget j h]
   obtain ⟨c1, c2, c3, c4⟩ := hcs
   have hj4 : j = 0 ∨ j = 1 ∨ j = 2 ∨ j = 3 := by omega
   rcases hj4 with rfl | rfl | rfl | rfl
   ·rw [← hb0]; omega
   ·have := (c1 (by omega)).1; simp only [Nat.zero_add] at this; omega
   ·have := (c2 (by omega)).1; simp only [Nat.zero_add] at this; omega
   ·have := (c3 (by omega)).1; simp only [Nat.zero_add] at this; omega
  refine ⟨hh.2, by omega, hr, ?_, ?_, ?_⟩
  ·intro h
   have := hall 0 h (by omega)
   simp only [Nat.add_zero] at this
   rw [hb, blank_high this]
  ·intro e; rw [hb] at e; cases e
  ·intro _ j h hj
   exact blank_high (hall j h hj)
theorem blank_calls (r : Nat) (w : World) : Calls Tryz.prog 60 #[.int .i32 (r : Int)] w fun e w' => e = .returned (.bool (blankB r)) ∧ Below w.heap.size w w' := by
 have h : reread_blank.f (r : Int) = some (blankB r) := by
  unfold reread_blank.f blankB
  by_cases h1 : r = 32
  ·subst h1; rfl
  ·rw [if_neg (by omega)]
   by_cases h2 : r = 9
   ·subst h2; rfl
   ·rw [if_neg (by omega)]
    by_cases h3 : r = 10
    ·subst h3; rfl
    ·rw [if_neg (by omega)]
     have e1 : (r == 32) = false := beq_eq_false_iff_ne.2 h1
     have e2 : (r == 9) = false := beq_eq_false_iff_ne.2 h2
     have e3 : (r == 10) = false := beq_eq_false_iff_ne.2 h3
     rw [e1, e2, e3]
     congr 1
     by_cases h4 : r = 13
     ·subst h4; rfl
     ·rw [beq_eq_false_iff_ne.2 (by omega : (r : Int) ≠ 13), beq_eq_false_iff_ne.2 h4]; rfl
 refine (reread_blank.calls (r : Int) _ w h).mono ?_
 rintro e w' ⟨rfl, hd⟩
 exact ⟨rfl, hd.below⟩
def curL (s : ByteArray) (st : Int) (i : Nat) : List UInt8 := if st < 0 then [] else (s.data.toList.drop st.toNat).take (i - st.toNat)
theorem cur_neg {s : ByteArray} {i : Nat} : curL s (-1) i = [] := rfl
theorem cur_ext {s : ByteArray} {st i : Nat} : (⟨(curL s (st : Int) i).toArray⟩ : ByteArray) = s.extract st i := by
 rw [ext_cut]; unfold curL; rw [if_neg (by omega), Int.toNat_natCast]
theorem cur_ne {s : ByteArray} {st i : Nat} (h : st < i) (hi : i ≤ s.size) : curL s (st : Int) i ≠ [] := by
 intro e
 have h2 := congrArg List.length e
 have hl := data_length s
 unfold curL at h2
 rw [if_neg (by omega), Int.toNat_natCast, List.length_take, List.length_drop, hl] at h2
 simp at h2
 omega
theorem cur_more {s : ByteArray} {st i z : Nat} (h : st ≤ i) : curL s (st : Int) i ++ (s.data.toList.drop i).take z = curL s (st : Int) (i + z) := by
 unfold curL
 rw [if_neg (by omega), if_neg (by omega), Int.toNat_natCast]
 rw [show i + z - st = (i - st) + z by omega, List.take_add, List.drop_drop, show st + (i - st) = i by omega]
theorem cur_start {s : ByteArray} {i z : Nat} : (s.data.toList.drop i).take z = curL s (i : Int) (i + z) := by
 unfold curL
 rw [if_neg (by omega), Int.toNat_natCast, show i + z - i = z by omega]
theorem wl_blank0 {s : ByteArray} {i : Nat} (hi : i < s.size) (hb : ∀ h : i < s.data.toList.length, blankB (s.data.toList[i]).toNat = true) : wordsL (s.data.toList.drop i) (curL s (-1) i) = wordsL (s.data.toList.drop (i + 1)) (curL s (-1) (i + 1)) := by
 have hil : i < s.data.toList.length := by rw [data_length]; exact hi
 rw [List.drop_eq_getElem_cons hil, words_blank _ _ _ (hb hil), cur_neg, if_pos rfl, cur_neg]
theorem wl_blank1 {s : ByteArray} {i j : Nat} (hi : i < s.size) (hj : j < i) (hb : ∀ h : i < s.data.toList.length, blankB (s.data.toList[i]).toNat = true) : wordsL (s.data.toList.drop i) (curL s (j : Int) i) = s.extract j i :: wordsL (s.data.toList.drop (i + 1)) (curL s (-1) (i + 1)) := by
 have hil : i < s.data.toList.length := by rw [data_length]; exact hi
 rw [List.drop_eq_getElem_cons hil, words_blank _ _ _ (hb hil), if_neg (cur_ne hj (by omega)), cur_ext, cur_neg]
theorem wl_skip {s : ByteArray} {i z : Nat} (hz : i + z ≤ s.size) (hb : ∀ j (h : i + j < s.data.toList.length), j < z → blankB (s.data.toList[i + j]).toNat = false) (c : List UInt8) : wordsL (s.data.toList.drop i) c = wordsL (s.data.toList.drop (i + z)) (c ++ (s.data.toList.drop i).take z) := by
 have hl : s.data.toList.length = s.size := data_length s
 have h := words_skip z (s.data.toList.drop i) c (by rw [List.length_drop]; omega) (fun j hj hjz => by
  rw [List.getElem_drop]; exact hb j (by rw [List.length_drop] at hj; omega) hjz)
 rw [h, List.drop_drop]
theorem wl_skip0 {s : ByteArray} {i z : Nat} (hz : i + z ≤ s.size) (hb : ∀ j (h : i + j < s.data.toList.length), j < z → blankB (s.data.toList[i + j]).toNat = false) : wordsL (s.data.toList.drop i) (curL s (-1) i) = wordsL (s.data.toList.drop (i + z)) (curL s (i : Int) (i + z)) := by
 rw [wl_skip hz hb, cur_neg, List.nil_append, cur_start]
theorem wl_skip1 {s : ByteArray} {i j z : Nat} (hz : i + z ≤ s.size) (hj : j ≤ i) (hb : ∀ j (h : i + j < s.data.toList.length), j < z → blankB (s.data.toList[i + j]).toNat = false) : wordsL (s.data.toList.drop i) (curL s (j : Int) i) = wordsL (s.data.toList.drop (i + z)) (curL s (j : Int) (i + z)) := by
 rw [wl_skip hz hb, cur_more hj]
theorem wl_end0 {s : ByteArray} : wordsL (s.data.toList.drop s.size) (curL s (-1) s.size) = [] := by
 rw [List.drop_eq_nil_of_le (by rw [data_length]; exact Nat.le_refl _), cur_neg]; rfl
theorem wl_end1 {s : ByteArray} {j : Nat} (hj : j < s.size) : wordsL (s.data.toList.drop s.size) (curL s (j : Int) s.size) = [s.extract j s.size] := by
 rw [List.drop_eq_nil_of_le (by rw [data_length]; exact Nat.le_refl _)]
 unfold wordsL
 rw [if_neg (cur_ne hj (Nat.le_refl _)), cur_ext]
theorem meas1 {n i : Nat} (h : i < n) : n - ((i : Int) + 1).toNat < n - ((i : Int)).toNat := by omega
theorem meas2 {n i z : Nat} (hz : 1 ≤ z) (h : i < n) : n - ((i : Int) + (z : Int)).toNat < n - ((i : Int)).toNat := by omega
theorem meas1v {n i : Nat} (h : i < n) : n - (RowKit.intOf (.int .i64 ((i : Int) + 1))).toNat < n - (RowKit.intOf (.int .i64 (i : Int))).toNat := meas1 h
theorem meas2v {n i z : Nat} (hz : 1 ≤ z) (h : i < n) : n - (RowKit.intOf (.int .i64 ((i : Int) + (z : Int)))).toNat < n - (RowKit.intOf (.int .i64 (i : Int))).toNat := meas2 hz h
theorem app_cons {α : Type} (pre : List α) (x : α) (l : List α) : pre ++ x :: l = (pre ++ [x]) ++ l := by simp
theorem len_app {α : Type} {w pre l : List α} {x : α} (h : w = (pre ++ [x]) ++ l) : pre.length < w.length := by rw [h, List.length_append, List.length_append, List.length_singleton]; omega
structure KpOk (Kp : World → World → Prop) (n₀ N b1 b2 : Nat) : Prop where
 t : ∀ A B C, Kp A B → Kp B C → Kp A C
 B : ∀ A B : World, N ≤ A.heap.size → Below A.heap.size A B → Kp A B
 n : ∀ A B, Kp A B → Below n₀ A B
 c1 : ∀ A B, Kp A B → B.cell? ⟨b1, 0, none⟩ = A.cell? ⟨b1, 0, none⟩
 c2 : ∀ A B, Kp A B → B.cell? ⟨b2, 0, none⟩ = A.cell? ⟨b2, 0, none⟩
set_option maxHeartbeats 2000000 in
theorem fields_in (n : Nat) (hn : 1 ≤ n) (l n₀ b1 b2 : Nat) (s : ByteArray) (hs : s.size ≤ 9223372036854775806) (J Jx : List ByteArray → World → Prop) (Kp : World → World → Prop) (W : World) (hk : KpOk Kp n₀ W.heap.size b1 b2)
  (hY : ∀ pre x W, J pre W → pre.length < (wordsP s).length → YieldAt Fence.wide (n - 1) Tryz.prog l #[.string x] W fun e W' =>
   (e = .returned (.bool true) ∧ J (pre ++ [x]) W' ∧ Kp W W') ∨ (e = .returned (.bool false) ∧ Jx (pre ++ [x]) W'))
  (hJB : ∀ pre W W', J pre W → Below W.heap.size W W' → J pre W') (w : World) (hL : LaidR w) (hn0w : w.heap.size ≤ n₀) (hwW : Below n₀ w W) (hnW : n₀ ≤ W.heap.size) (h1 : W.cell? ⟨b1, 0, none⟩ = some (.string s)) (h2 : W.cell? ⟨b2, 0, none⟩ = some (.func (.func 60) #[] #[])) (h0 : J [] W) :
  CallsIn Fence.wide n Tryz.prog 91 #[.func (.yield l) #[] #[], .pointer (some ⟨b1, 0, none⟩), .pointer (some ⟨b2, 0, none⟩)] W fun e W' => (∃ v, e = .returned v) ∧
   ((∃ ys, ys = wordsP s ∧ J ys W') ∨ (∃ pre, pre <+: wordsP s ∧ Jx pre W')) := by
 refine callsIn_of_wp Tryz.func91 rfl trivial ?_ rfl
 simp only [Tryz.ntmps91, List.size_toArray, List.length_cons, List.length_nil, Nat.reduceAdd, Nat.reduceSub, Array.replicate_succ, Array.replicate_zero, List.push_toArray, List.append_toArray, List.nil_append, List.cons_append]
 gi_wp2
 gi_loopw [4, 5] (fun p q wr => ∃ (pre : List ByteArray) (st : Int) (i : Nat), p = .int .i64 st ∧ q = .int .i64 i ∧ i ≤ s.size ∧ (st = -1 ∨ (0 ≤ st ∧ st < i)) ∧ wordsP s = pre ++ wordsL (s.data.toList.drop i) (curL s st i) ∧ Aside0 (J pre wr) ∧ Aside0 (Kp W wr))
  (fun p q wr => s.size - (RowKit.intOf q).toNat)
 case atStart => exact ⟨[], -1, 0, rfl, rfl, Nat.zero_le _, .inl rfl, rfl, ⟨h0⟩, ⟨hk.B _ _ (Nat.le_refl _) (Below.refl _ _)⟩⟩
 case round =>
  obtain ⟨pre, st, i, rfl, rfl, hi, hst, hw_, HJ, HB⟩ := hrel
  have c1 : wr.cell? ⟨b1, 0, none⟩ = some (.string s) := (hk.c1 _ _ HB.out).trans h1
  have c2 : wr.cell? ⟨b2, 0, none⟩ = some (.func (.func 60) #[] #[]) := (hk.c2 _ _ HB.out).trans h2
  have hnr : W.heap.size ≤ wr.heap.size := (hk.n _ _ HB.out).size
  have HW := Aside0.mk hw_
  have HJ0 := Aside0.mk hJB
  have HY := Aside0.mk hY
  clear hw_ hJB hY
  by_cases hlt : i < s.size
  ·have hltz : (i : Int) < (s.size : Int) := by omega
   have hU := (hL.below ((hwW.trans (hk.n _ _ HB.out)).mono hn0w)).utf
   obtain ⟨z1, z2, z3, z4, z5, z6⟩ := dec_step s i hlt
   have HD := Aside0.mk (fun W (hU : Lib.Utf8Tabs 0 1 W) => Tryz.utf8_DecodeRuneInString (s.extract i s.size) W hU)
   generalize decodeGo (s.extract i s.size) = dz at z1 z2 z3 z4 z5 z6 HD
   obtain ⟨r, z⟩ := dz
   dsimp only at z1 z2 z3 z4 z5 z6 HD
   have Z := Aside0.mk (And.intro z4 (And.intro z5 z6))
   clear z4 z5 z6
   have hbl : ∀ W : World, Calls Tryz.prog 60 #[.int .i32 (r : Int)] W fun e w' => e = .returned (.bool (blankB r)) ∧ Below W.heap.size W w' := fun W => blank_calls r W
   obtain ⟨bk, hbk⟩ : ∃ bk, blankB r = bk := ⟨_, rfl⟩
   simp only [hbk] at hbl
   have HBK := Aside0.mk hbk
   clear hbk
   have HBL := Aside0.mk hbl
   have HUT := Aside0.mk hU
   clear hbl hU
   have h0i : (0 : Int) ≤ (i : Int) := by omega
   have hiz : (i : Int) ≤ (s.size : Int) := by omega
   gi_wp2_with (refine ⟨trivial, ?_⟩; gi_at_call 92; refine (callsIn_wide.2 (HD.out _ HUT.out)).mono ?_; rintro e w1 ⟨rfl, hb⟩; have c2' := (hb.cell (World.block_lt_of_cell? _ _ c2)).trans c2; have c1' := (hb.cell (World.block_lt_of_cell? _ _ c1)).trans c1; have HB1 := Aside0.mk (hk.t _ _ _ HB.out (hk.B _ _ hnr hb)); have HJ1 := Aside0.mk (HJ0.out _ _ _ HJ.out hb); clear hb)
   refine ⟨trivial, ?_⟩
   refine (callsIn_wide.2 (HBL.out _)).mono ?_
   rintro e w2 ⟨rfl, hb⟩
   have c1'' := (hb.cell (World.block_lt_of_cell? _ _ c1')).trans c1'
   have c2'' := (hb.cell (World.block_lt_of_cell? _ _ c2')).trans c2'
   have HB2 := Aside0.mk (hk.t _ _ _ HB1.out (hk.B _ _ (hk.n _ _ HB1.out).size hb))
   have HJ2 := Aside0.mk (HJ0.out _ _ _ HJ1.out hb)
   clear hb HB1 HJ1 c1 c2 c1' c2' HJ HB
   have hnr2 : W.heap.size ≤ w2.heap.size := (hk.n _ _ HB2.out).size
   have hwz : wrap64 ((i : Int) + (z : Int)) = (i : Int) + (z : Int) := by unfold wrap64; omega
   cases bk with
   | true =>
    have hz1 := Z.out.2.1 HBK.out
    subst hz1
    have hwz1 : wrap64 ((i : Int) + 1) = (i : Int) + 1 := hwz
    clear hwz
    have HBB := Aside0.mk (fun h => (Z.out.1 h).symm.trans HBK.out)
    rcases hst with rfl | ⟨hs0, hs1⟩
    ·have HW2 := Aside0.mk (HW.out.trans (congrArg (fun x => pre ++ x) (wl_blank0 hlt HBB.out)))
     clear HW HBB HD HBL HUT Z HBK HY HJ0 hnr hnr2 hs hL hn0w hwW hnW h1 h2 h0 hk
     gi_wp2
     go_roundw
     case rel => exact ⟨pre, -1, i + 1, rfl, by simp [hwz1], by omega, .inl rfl, HW2.out, HJ2, HB2⟩
     case measure =>
      rw [hwz1]
      exact meas1v hlt
    ·obtain ⟨j, rfl⟩ := Int.eq_ofNat_of_zero_le hs0
     have hji : j < i := Int.ofNat_lt.1 hs1
     have HW2 := Aside0.mk ((HW.out.trans (congrArg (fun x => pre ++ x) (wl_blank1 hlt hji HBB.out))).trans (app_cons pre _ _))
     have hlen := len_app HW2.out
     obtain ⟨fn, tmps, assign, body, hy, hR⟩ := HY.out pre (s.extract j i) w2 HJ2.out hlen
     have hRR := Aside0.mk hR
     have d0 : decide ((j : Int) ≥ 0) = true := decide_eq_true (Int.natCast_nonneg j)
     have e1 : (0 : Int) ≤ (j : Int) := Int.natCast_nonneg j
     have e2 : (j : Int) ≤ (i : Int) := Int.ofNat_le.2 (Nat.le_of_lt hji)
     clear HW HBB hlen hR
     gi_wp2
     refine hRR.out.mono ?_
     rintro e W3 (⟨rfl, hJ3, hk3⟩ | ⟨rfl, hJx3⟩)
     ·have HJ3 := Aside0.mk hJ3
      have HB3 := Aside0.mk (hk.t _ _ _ HB2.out hk3)
      have c13 := (hk.c1 _ _ hk3).trans c1''
      have c23 := (hk.c2 _ _ hk3).trans c2''
      clear hJ3 hk3 c1'' c2'' hy hRR HD HBL HUT Z HBK HY HJ0 hnr hnr2 hs hL hn0w hwW hnW h1 h2 h0 hk d0 e1 e2 hji hs0 hs1 z2 z3 HJ2 HB2
      gi_wp2
      go_roundw
      case rel =>
       have q1 : Value.int .i64 (wrap64 ((i : Int) + 1)) = .int .i64 ((i + 1 : Nat) : Int) := by rw [hwz1]; rfl
       clear hwz1
       exact ⟨pre ++ [s.extract j i], -1, i + 1, rfl, q1, by omega, .inl rfl, HW2.out, HJ3, HB3⟩
      case measure =>
      rw [hwz1]
      exact meas1v hlt
     ·have HJ3 := Aside0.mk hJx3
      clear hJx3 hy hRR HD HBL HUT Z HBK HY HJ0 hnr hnr2 hs hL hn0w hwW hnW h1 h2 h0 hk d0 e1 e2 hji hs0 hs1 z1 z2 z3 HJ2 HB2
      gi_wp2
      refine bodyPost_ret (results_none rfl _ _ _) rfl ?_
      exact ⟨⟨_, rfl⟩, .inr ⟨pre ++ [s.extract j i], ⟨_, HW2.out.symm⟩, HJ3.out⟩⟩
   | false =>
    have HALL := Aside0.mk (Z.out.2.2 HBK.out)
    rcases hst with rfl | ⟨hs0, hs1⟩
    ·have HW2 := Aside0.mk (HW.out.trans (congrArg (fun x => pre ++ x) (wl_skip0 z2 HALL.out)))
     clear HW HALL HD HBL HUT Z HBK HY HJ0 hnr hnr2 hs hL hn0w hwW hnW h1 h2 h0 hk
     gi_wp2
     go_roundw
     case rel =>
      have q1 : Value.int .i64 (wrap64 ((i : Int) + (z : Int))) = .int .i64 ((i + z : Nat) : Int) := by rw [hwz]; rfl
      clear hwz
      exact ⟨pre, (i : Int), i + z, rfl, q1, by omega, .inr ⟨by omega, by omega⟩, HW2.out, HJ2, HB2⟩
     case measure =>
      rw [hwz]
      exact meas2v z1 hlt
    ·obtain ⟨j, rfl⟩ := Int.eq_ofNat_of_zero_le hs0
     have HW2 := Aside0.mk (HW.out.trans (congrArg (fun x => pre ++ x) (wl_skip1 z2 (Nat.le_of_lt (Int.ofNat_lt.1 hs1)) HALL.out)))
     have d0 : decide ((j : Int) < 0) = false := decide_eq_false (Int.not_lt.2 (Int.natCast_nonneg j))
     clear HW HALL HD HBL HUT Z HBK HY HJ0 hnr hnr2 hs hL hn0w hwW hnW h1 h2 h0 hk
     gi_wp2
     go_roundw
     case rel =>
      have q1 : Value.int .i64 (wrap64 ((i : Int) + (z : Int))) = .int .i64 ((i + z : Nat) : Int) := by rw [hwz]; rfl
      clear hwz
      exact ⟨pre, (j : Int), i + z, rfl, q1, by omega, .inr ⟨by omega, by omega⟩, HW2.out, HJ2, HB2⟩
     case measure =>
      rw [hwz]
      exact meas2v z1 hlt
  ·have hltz : ¬ (i : Int) < (s.size : Int) := by omega
   obtain rfl : i = s.size := by omega
   rcases hst with rfl | ⟨hs0, hs1⟩
   ·have HW2 := Aside0.mk ((HW.out.trans (congrArg (fun x => pre ++ x) wl_end0)).trans (List.append_nil _))
    clear HW
    gi_wp2
    go_end0
    exact ⟨⟨_, rfl⟩, .inl (by first | exact ⟨_, HW2.out.symm, HJ.out⟩ | (rw [HW2.out]; exact HJ.out))⟩
   ·obtain ⟨j, rfl⟩ := Int.eq_ofNat_of_zero_le hs0
    have hji : j < s.size := by omega
    have HW2 := Aside0.mk (HW.out.trans (congrArg (fun x => pre ++ x) (wl_end1 hji)))
    have hlen : pre.length < (wordsP s).length := len_app (l := []) (HW2.out.trans (List.append_nil _).symm)
    obtain ⟨fn, tmps, assign, body, hy, hR⟩ := HY.out pre (s.extract j s.size) wr HJ.out hlen
    have hRR := Aside0.mk hR
    have d0 : decide ((j : Int) ≥ 0) = true := decide_eq_true (Int.natCast_nonneg j)
    have e1 : (0 : Int) ≤ (j : Int) := Int.natCast_nonneg j
    have e2 : (j : Int) ≤ (s.size : Int) := by omega
    clear HW hlen hR
    gi_wp2
    refine hRR.out.mono ?_
    rintro e W3 (⟨rfl, hJ3, hk3⟩ | ⟨rfl, hJx3⟩)
    ·have HJ3 := Aside0.mk hJ3
     clear hJ3 hk3 hy hRR
     gi_wp2
     go_end0
     exact ⟨⟨_, rfl⟩, .inl (by first | exact ⟨_, HW2.out.symm, HJ3.out⟩ | (rw [HW2.out]; exact HJ3.out))⟩
    ·have HJ3 := Aside0.mk hJx3
     clear hJx3 hy hRR
     gi_wp2
     go_end0
     exact ⟨⟨_, rfl⟩, .inr ⟨pre ++ [s.extract j s.size], ⟨[], by rw [HW2.out]; simp⟩, HJ3.out⟩⟩
end Go.Proofs.YticndoihkfbpoaaGreatDoor
