/- What is read has just the words that it was read of: plain Lean. -/
import Derived.Test.YticndoihkfbpoaaGreatDoorOf
namespace Go.Proofs.YticndoihkfbpoaaGreatDoor
open Go Go.RowKit Go.Lib Go.Proofs.YticndoihkfbpoaaGreatDoorW.PrintWords Go.Proofs.YticndoihkfbpoaaGreatDoor.PScope
set_option maxRecDepth 100000
set_option linter.unusedSimpArgs false
set_option linter.unusedVariables false
theorem numP_some {s : ByteArray} {n : Int} (h : numP s = some n) : itoaB n = s ∧ 0 ≤ n ∧ n ≤ 9223372036854775807 := by
 unfold numP at h
 rcases hq : parseIntB 64 s.data.toList with v | _ | _ <;> rw [hq] at h
 ·simp only at h
  split at h
  ·rename_i hc
   injection h with h
   subst h
   obtain ⟨b0, b1⟩ := parseIntB_bounds hq
   exact ⟨hc.2, hc.1, by omega⟩
  ·cases h
 ·cases h
 ·cases h
section
variable (ws : List ByteArray)
def Seg (k : Nat) (us : List ByteArray) (k' : Nat) : Prop := ws.drop k = us ++ ws.drop k'
variable {ws} {k k1 k2 k' : Nat} {us vs : List ByteArray}
theorem Seg.trans (h : Seg ws k us k1) (g : Seg ws k1 vs k2) : Seg ws k (us ++ vs) k2 := by
 unfold Seg at *
 rw [h, g, List.append_assoc]
theorem Seg.one {s : ByteArray} (hk : k < ws.length) (h : ws.getD k es = s) : Seg ws k [s] (k + 1) := by
 unfold Seg
 rw [List.drop_eq_getElem_cons hk, ← h, List.getD_eq_getElem?_getD, List.getElem?_eq_getElem hk]
 rfl
theorem nextLt {s : ByteArray} (h : nextR ws k = s) (hs : s ≠ es) : k < ws.length := by
 by_cases hk : k < ws.length
 ·exact hk
 ·exact absurd (by rw [← h]; unfold nextR; rw [List.getD_eq_getElem?_getD, List.getElem?_eq_none (by omega)]; rfl) hs
theorem seg_next {s : ByteArray} (h : nextR ws k = s) (hs : s ≠ es) : Seg ws k [s] (k + 1) := Seg.one (nextLt h hs) h
theorem seg_takes {s : ByteArray} (h : takesR ws s k = true) : Seg ws k [s] (k + 1) := by
 unfold takesR at h
 simp only [Bool.and_eq_true, decide_eq_true_eq] at h
 exact Seg.one h.1 h.2
theorem seg_want {s : ByteArray} (h : wantR ws s k = .ok k1) : Seg ws k [s] k1 := by
 unfold wantR at h
 split at h
 ·rename_i ht
  injection h with h
  subst h
  exact seg_takes ht
 ·cases h
theorem seg_number {n : Int} (h : numberR ws k = .ok (n, k1)) : Seg ws k [itoaB n] k1 ∧ 0 ≤ n ∧ n ≤ 9223372036854775807 := by
 unfold numberR at h
 cases hn : numP (nextR ws k) with
 | none => rw [hn] at h; cases h
 | some v =>
  rw [hn] at h
  injection h with h
  injection h with h1 h2
  subst h1; subst h2
  obtain ⟨e, b0, b1⟩ := numP_some hn
  have hne : nextR ws k ≠ es := fun e2 => by rw [e2, numP_es] at hn; cases hn
  exact ⟨by rw [e]; exact seg_next rfl hne, b0, b1⟩
theorem seg_name {s : ByteArray} (h : nameR ws k = .ok (s, k1)) : Seg ws k [s] k1 ∧ s ∈ ws := by
 unfold nameR at h
 split at h
 ·rename_i hn
  injection h with h
  injection h with h1 h2
  subst h1; subst h2
  have hne : nextR ws k ≠ es := fun e2 => by rw [e2, nameP_es] at hn; cases hn
  refine ⟨seg_next rfl hne, ?_⟩
  have hlt := nextLt (ws := ws) (k := k) rfl hne
  unfold nextR
  exact getDm hlt _
 ·cases h
theorem btwL_congr {f g : Nat → List ByteArray} : ∀ {n : Nat}, (∀ i, i < n → f i = g i) → btwL f n = btwL g n
 | 0, _ => rfl
 | n + 1, h => by
  rw [show btwL f (n + 1) = btwL f n ++ ((if n = 0 then [] else [comS]) ++ f n) from rfl, show btwL g (n + 1) = btwL g n ++ ((if n = 0 then [] else [comS]) ++ g n) from rfl, btwL_congr (fun i hi => h i (by omega)), h n (by omega)]
def bL {α : Type} (W : α → List ByteArray) (d : α) (l : List α) : List ByteArray := btwL (fun i => W (l.getD i d)) l.length
theorem bL_snoc {α : Type} (W : α → List ByteArray) (d : α) (l : List α) (x : α) : bL W d (l ++ [x]) = bL W d l ++ ((if l.length = 0 then [] else [comS]) ++ W x) := by
 unfold bL
 rw [List.length_append, show l.length + [x].length = l.length + 1 from rfl]
 rw [show btwL (fun i => W ((l ++ [x]).getD i d)) (l.length + 1) = btwL (fun i => W ((l ++ [x]).getD i d)) l.length ++ ((if l.length = 0 then [] else [comS]) ++ W ((l ++ [x]).getD l.length d)) from rfl]
 rw [show (l ++ [x]).getD l.length d = x by rw [List.getD_eq_getElem?_getD, List.getElem?_append_right (Nat.le_refl _)]; simp]
 rw [btwL_congr (g := fun i => W (l.getD i d)) (fun i hi => by rw [List.getD_eq_getElem?_getD, List.getElem?_append_left hi, List.getD_eq_getElem?_getD])]
theorem seg_many {α : Type} {W : α → List ByteArray} {d : α} {P : α → Prop} {read : Rd α} (hr : ∀ {k x k'}, read k = .ok (x, k') → Seg ws k (W x) k' ∧ P x) : ∀ {m k l xs k'}, l ≠ [] → manyR ws read m k l = .ok (xs, k') → (∀ x ∈ l, P x) →
  (∃ us, Seg ws k us k' ∧ bL W d l ++ us = bL W d xs ++ [clsS]) ∧ ∀ x ∈ xs, P x
 | 0, k, l, xs, k', hl, h, hp => by unfold manyR at h; cases h
 | m + 1, k, l, xs, k', hl, h, hp => by
  unfold manyR at h
  split at h
  ·rename_i ht
   cases h1 : read (k + 1) with
   | error f => rw [h1] at h; cases h
   | ok x =>
    rw [h1] at h
    obtain ⟨x, k1⟩ := x
    simp only at h
    obtain ⟨s1, p1⟩ := hr h1
    obtain ⟨⟨us, s2, e2⟩, hxs⟩ := seg_many hr (by simp) h (fun y hy => by rcases List.mem_append.1 hy with hy | hy; (focus exact hp y hy); rw [List.mem_singleton.1 hy]; exact p1)
    refine ⟨⟨[comS] ++ W x ++ us, ((seg_takes ht).trans s1).trans s2, ?_⟩, hxs⟩
    rw [← e2, bL_snoc, if_neg (by intro e; exact hl (List.length_eq_zero_iff.1 e))]
    simp only [List.append_assoc]
  ·cases h1 : wantR ws clsS k with
   | error f => rw [h1] at h; cases h
   | ok k1 =>
    rw [h1] at h
    injection h with h
    injection h with h2 h3
    subst h2; subst h3
    exact ⟨⟨[clsS], seg_want h1, rfl⟩, hp⟩
theorem seg_list {α : Type} {W : α → List ByteArray} {d : α} {P : α → Prop} {read : Rd α} (hr : ∀ {k x k'}, read k = .ok (x, k') → Seg ws k (W x) k' ∧ P x) {xs : List α} (h : listR ws read k = .ok (xs, k')) : Seg ws k (btw (fun i => W (xs.getD i d)) xs.length) k' ∧ ∀ x ∈ xs, P x := by
 unfold listR at h
 cases h0 : wantR ws opnS k with
 | error f => rw [h0] at h; cases h
 | ok k1 =>
  rw [h0] at h
  simp only at h
  split at h
  ·rename_i ht
   injection h with h
   injection h with h2 h3
   subst h2; subst h3
   exact ⟨(seg_want h0).trans (seg_takes ht), fun x hx => by cases hx⟩
  ·cases h1 : read k1 with
   | error f => rw [h1] at h; cases h
   | ok x =>
    rw [h1] at h
    obtain ⟨x, k2⟩ := x
    simp only at h
    obtain ⟨s1, p1⟩ := hr h1
    obtain ⟨⟨us, s2, e2⟩, hxs⟩ := seg_many (W := W) (d := d) hr (by simp) h (fun y hy => by rw [List.mem_singleton.1 hy]; exact p1)
    refine ⟨?_, hxs⟩
    have := (seg_want h0).trans (s1.trans s2)
    rw [show W x ++ us = bL W d [x] ++ us from rfl, e2, ← List.append_assoc] at this
    exact this
theorem seg_tillB {σ : Type} {WS : σ → List ByteArray} {P : σ → Prop} {read : σ → Rd σ} (hr : ∀ {s k s' k'}, P s → read s k = .ok (s', k') → (∃ us, Seg ws k us k' ∧ WS s' = WS s ++ us) ∧ P s') : ∀ {m k s s' k'}, P s → tillB ws read m k s = .ok (s', k') → (∃ us, Seg ws k (us ++ [ketS]) k' ∧ WS s' = WS s ++ us) ∧ P s'
 | 0, k, s, s', k', hp, h => by unfold tillB at h; cases h
 | m + 1, k, s, s', k', hp, h => by
  unfold tillB at h
  split at h
  ·rename_i ht
   injection h with h
   injection h with h2 h3
   subst h2; subst h3
   exact ⟨⟨[], seg_next ht (by decide), by rw [List.append_nil]⟩, hp⟩
  ·cases h1 : read s k with
   | error f => rw [h1] at h; cases h
   | ok x =>
    rw [h1] at h
    obtain ⟨x, k1⟩ := x
    simp only at h
    obtain ⟨⟨us, s1, e1⟩, p1⟩ := hr hp h1
    obtain ⟨⟨vs, s2, e2⟩, p2⟩ := seg_tillB hr p1 h
    refine ⟨⟨us ++ vs, ?_, by rw [e2, e1, List.append_assoc]⟩, p2⟩
    rw [List.append_assoc]
    exact s1.trans s2
theorem seg_till {σ : Type} {WS : σ → List ByteArray} {P : σ → Prop} {read : σ → Rd σ} (hr : ∀ {s k s' k'}, P s → read s k = .ok (s', k') → (∃ us, Seg ws k us k' ∧ WS s' = WS s ++ us) ∧ P s') {s s' : σ} (hp : P s) (h : tillR ws read s k = .ok (s', k')) : (∃ us, Seg ws k ([braS] ++ us ++ [ketS]) k' ∧ WS s' = WS s ++ us) ∧ P s' := by
 unfold tillR at h
 cases h0 : wantR ws braS k with
 | error f => rw [h0] at h; cases h
 | ok k1 =>
  rw [h0] at h
  simp only at h
  obtain ⟨⟨us, s2, e2⟩, p2⟩ := seg_tillB (WS := WS) hr hp h
  refine ⟨⟨us, ?_, e2⟩, p2⟩
  rw [List.append_assoc]
  exact (seg_want h0).trans s2
theorem seg_cell {n : Int} (h : cellR ws k = .ok (n, k')) : Seg ws k ([sqoS, itoaB n, sqcS]) k' ∧ 0 ≤ n ∧ n ≤ 9223372036854775807 := by
 unfold cellR at h
 cases h0 : wantR ws sqoS k with
 | error f => rw [h0] at h; cases h
 | ok k1 =>
  rw [h0] at h
  simp only at h
  cases h1 : numberR ws k1 with
  | error f => rw [h1] at h; cases h
  | ok x =>
   rw [h1] at h
   obtain ⟨x, k2⟩ := x
   simp only at h
   cases h2 : wantR ws sqcS k2 with
   | error f => rw [h2] at h; cases h
   | ok k3 =>
    rw [h2] at h
    injection h with h
    injection h with e1 e2
    subst e1; subst e2
    obtain ⟨s1, b0, b1⟩ := seg_number h1
    exact ⟨(seg_want h0).trans (s1.trans (seg_want h2)), b0, b1⟩
theorem inL_ne {s : ByteArray} (h : inL opL s = true) : s ≠ es := by
 intro e
 subst e
 revert h
 decide +kernel
theorem seg_inner {ex : Rd S38} (hx : ∀ {k e k'}, ex k = .ok (e, k') → Seg ws k (wE e) k' ∧ ExSh e) {e : S38} (h : innerR ws ex k = .ok (e, k')) : Seg ws k ((wE e).tail.dropLast) k' ∧ ExSh e ∧ ∃ us, wE e = [opnS] ++ us ++ [clsS] ∧ Seg ws k us k' := by
 have key : ExSh e ∧ ∃ us, wE e = [opnS] ++ us ++ [clsS] ∧ Seg ws k us k' := by
  unfold innerR at h
  split at h
  ·rename_i hn
   cases h1 : ex (k + 1) with
   | error f => rw [h1] at h; cases h
   | ok a =>
    rw [h1] at h
    obtain ⟨a, k1⟩ := a
    injection h with h
    injection h with e1 e2
    subst e1; subst e2
    obtain ⟨s1, x1⟩ := hx h1
    have hne : nextR ws k ≠ es := by rcases hn with hn | hn <;> rw [hn] <;> decide
    refine ⟨ExSh.mk _ (.inr (.inl rfl)) (show (-9223372036854775808 : Int) ≤ 0 by decide) (show (0 : Int) ≤ 9223372036854775807 by decide) (show (showW 5 (nextR ws k) 0).size ≤ 140737488355328 from ?_) (fun y hy => by rw [List.mem_singleton.1 hy]; exact x1), [nextR ws k] ++ wE a, ?_, (seg_next rfl hne).trans s1⟩
    ·rcases hn with hn | hn <;> rw [hn] <;> decide
    ·rw [wE_eq]; rfl
  ·split at h
   ·rename_i hn
    cases h1 : ex (k + 1) with
    | error f => rw [h1] at h; cases h
    | ok a =>
     rw [h1] at h
     obtain ⟨a, k1⟩ := a
     simp only at h
     cases h2 : wantR ws thenS k1 with
     | error f => rw [h2] at h; cases h
     | ok k2 =>
      rw [h2] at h
      simp only at h
      cases h3 : ex k2 with
      | error f => rw [h3] at h; cases h
      | ok b =>
       rw [h3] at h
       obtain ⟨b, k3⟩ := b
       simp only at h
       cases h4 : wantR ws elseS k3 with
       | error f => rw [h4] at h; cases h
       | ok k4 =>
        rw [h4] at h
        simp only at h
        cases h5 : ex k4 with
        | error f => rw [h5] at h; cases h
        | ok c =>
         rw [h5] at h
         obtain ⟨c, k5⟩ := c
         injection h with h
         injection h with e1 e2
         subst e1; subst e2
         obtain ⟨s1, x1⟩ := hx h1
         obtain ⟨s3, x3⟩ := hx h3
         obtain ⟨s5, x5⟩ := hx h5
         refine ⟨ExSh.mk _ (.inr (.inr (.inr (.inl rfl)))) (show (-9223372036854775808 : Int) ≤ 0 by decide) (show (0 : Int) ≤ 9223372036854775807 by decide) (show (showW 7 es 0).size ≤ 140737488355328 by decide) (fun y hy => by simp only [List.mem_cons, List.not_mem_nil, or_false] at hy; rcases hy with rfl | rfl | rfl <;> assumption), [ifS] ++ wE a ++ [thenS] ++ wE b ++ [elseS] ++ wE c, ?_, (((((seg_next hn (by decide)).trans s1).trans (seg_want h2)).trans s3).trans (seg_want h4)).trans s5⟩
         rw [wE_eq]
         show [opnS] ++ [ifS] ++ wE a ++ [thenS] ++ wE b ++ [elseS] ++ wE c ++ [clsS] = _
         simp only [List.append_assoc]
   ·cases h1 : ex k with
    | error f => rw [h1] at h; cases h
    | ok a =>
     rw [h1] at h
     obtain ⟨a, k1⟩ := a
     simp only at h
     split at h
     ·rename_i hin
      cases h2 : ex (k1 + 1) with
      | error f => rw [h2] at h; cases h
      | ok b =>
       rw [h2] at h
       obtain ⟨b, k2⟩ := b
       injection h with h
       injection h with e1 e2
       subst e1; subst e2
       obtain ⟨s1, x1⟩ := hx h1
       obtain ⟨s2, x2⟩ := hx h2
       have hz : (nextR ws k1).size ≤ 140737488355328 := by
        unfold inL at hin
        rw [List.any_eq_true] at hin
        obtain ⟨o, ho, he⟩ := hin
        rw [← of_decide_eq_true he]
        have hall : ∀ o ∈ opL, o.size ≤ 140737488355328 := by decide +kernel
        exact hall o ho
       refine ⟨ExSh.mk _ (.inr (.inr (.inl rfl))) (show (-9223372036854775808 : Int) ≤ 0 by decide) (show (0 : Int) ≤ 9223372036854775807 by decide) (show (showW 6 (nextR ws k1) 0).size ≤ 140737488355328 from hz) (fun y hy => by simp only [List.mem_cons, List.not_mem_nil, or_false] at hy; rcases hy with rfl | rfl <;> assumption), wE a ++ [nextR ws k1] ++ wE b, ?_, (s1.trans (seg_next rfl (inL_ne hin))).trans s2⟩
       rw [wE_eq]
       show [opnS] ++ wE a ++ [nextR ws k1] ++ wE b ++ [clsS] = _
       simp only [List.append_assoc]
     ·cases h
 obtain ⟨hs, us, e1, s1⟩ := key
 refine ⟨?_, hs, us, e1, s1⟩
 rw [e1]
 simpa using s1
theorem seg_expr (hw : ∀ x ∈ ws, x.size ≤ 140737488355328) : ∀ {d k e k'}, exprR ws d k = .ok (e, k') → Seg ws k (wE e) k' ∧ ExSh e
 | 0, k, e, k', h => by unfold exprR at h; cases h
 | d + 1, k, e, k', h => by
  unfold exprR at h
  cases hn : numP (nextR ws k) with
  | some n =>
   rw [hn] at h
   injection h with h
   injection h with e1 e2
   subst e1; subst e2
   obtain ⟨e1, b0, b1⟩ := numP_some hn
   have hne : nextR ws k ≠ es := fun e2 => by rw [e2, numP_es] at hn; cases hn
   have hin : nextR ws k ∈ ws := by have hlt := nextLt (ws := ws) (k := k) rfl hne; unfold nextR; exact getDm hlt _
   refine ⟨?_, ExSh.mk _ (.inr (.inr (.inr (.inr (.inl rfl))))) (by show (-9223372036854775808 : Int) ≤ n; omega) b1 (show (itoaB n).size ≤ 140737488355328 by rw [e1]; exact hw _ hin) (fun y hy => by cases hy)⟩
   rw [wE_eq]
   show Seg ws k [itoaB n] (k + 1)
   rw [e1]
   exact seg_next rfl hne
  | none =>
   rw [hn] at h
   simp only at h
   split at h
   ·rename_i ht
    cases h1 : cellR ws (k + 1) with
    | error f => rw [h1] at h; cases h
    | ok x =>
     rw [h1] at h
     obtain ⟨x, k1⟩ := x
     injection h with h
     injection h with e1 e2
     subst e1; subst e2
     obtain ⟨s1, b0, b1⟩ := seg_cell h1
     refine ⟨?_, ExSh.mk _ (.inl rfl) (by show (-9223372036854775808 : Int) ≤ x; omega) b1 (show (showW 16 es x).size ≤ 140737488355328 by show (es).size ≤ _; decide) (fun y hy => by cases hy)⟩
     rw [wE_eq]
     exact (seg_takes ht).trans s1
   ·split at h
    ·rename_i ht
     cases h1 : innerR ws (exprR ws d) (k + 1) with
     | error f => rw [h1] at h; cases h
     | ok x =>
      rw [h1] at h
      obtain ⟨x, k1⟩ := x
      simp only at h
      cases h2 : wantR ws clsS k1 with
      | error f => rw [h2] at h; cases h
      | ok k2 =>
       rw [h2] at h
       injection h with h
       injection h with e1 e2
       subst e1; subst e2
       obtain ⟨_, hs, us, e1, s1⟩ := seg_inner (seg_expr hw) h1
       refine ⟨?_, hs⟩
       rw [e1]
       exact ((seg_takes ht).trans s1).trans (seg_want h2)
    ·cases h1 : nameR ws k with
     | error f => rw [h1] at h; cases h
     | ok x =>
      rw [h1] at h
      obtain ⟨x, k1⟩ := x
      injection h with h
      injection h with e1 e2
      subst e1; subst e2
      obtain ⟨s1, hin⟩ := seg_name h1
      refine ⟨?_, ExSh.mk _ (.inr (.inr (.inr (.inr (.inr rfl))))) (show (-9223372036854775808 : Int) ≤ 0 by decide) (show (0 : Int) ≤ 9223372036854775807 by decide) (show (x).size ≤ 140737488355328 from hw _ hin) (fun y hy => by cases hy)⟩
      rw [wE_eq]
      exact s1
end
end Go.Proofs.YticndoihkfbpoaaGreatDoor
