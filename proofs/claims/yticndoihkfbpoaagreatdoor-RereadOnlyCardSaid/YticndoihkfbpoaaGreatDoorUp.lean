/- Package reread: Words. -/
import Derived.Test.YticndoihkfbpoaaGreatDoorUo
namespace Go.Proofs.YticndoihkfbpoaaGreatDoor
open Go Go.RowKit Go.Lib Go.Shelf Go.Proofs.YticndoihkfbpoaaGreatDoorW.PrintWords Go.Proofs.YticndoihkfbpoaaGreatDoor.PScope
set_option maxRecDepth 100000
set_option linter.unusedSimpArgs false
set_option linter.unusedVariables false
attribute [local go_sem] Oper.semAt_some
structure FB (n₀ : Nat) (W W' : World) : Prop where
 os : W'.os = W.os
 tape : W'.tape = W.tape
 output : W'.output = W.output
 size : W.heap.size ≤ W'.heap.size
 block : ∀ k, k < n₀ + 3 → k ≠ n₀ → W'.heap[k]? = W.heap[k]?
theorem FB.trans {n₀ : Nat} {a b c : World} (h : FB n₀ a b) (k : FB n₀ b c) : FB n₀ a c := ⟨k.os.trans h.os, k.tape.trans h.tape, k.output.trans h.output, Nat.le_trans h.size k.size, fun i hi hn => (k.block i hi hn).trans (h.block i hi hn)⟩
theorem FB.of_below {n₀ : Nat} {a b : World} (hn : n₀ + 3 ≤ a.heap.size) (h : Below a.heap.size a b) : FB n₀ a b := ⟨h.os, h.tape, h.output, h.size, fun i hi _ => h.block i (by omega)⟩
theorem FB.kpok (n₀ N : Nat) (hN : n₀ + 3 ≤ N) : KpOk (FB n₀) n₀ N (n₀ + 1) (n₀ + 2) :=
 ⟨fun _ _ _ h k => h.trans k, fun A B hA hb => FB.of_below (by omega) hb, fun A B h => ⟨h.os, h.tape, h.output, h.size, fun k hk => h.block k (by omega) (by omega)⟩,
  fun A B h => World.cell?_of_block (w := A) (h.block (n₀ + 1) (by omega) (by omega)), fun A B h => World.cell?_of_block (w := A) (h.block (n₀ + 2) (by omega) (by omega))⟩
theorem FB.b {n₀ : Nat} {w : World} (hn : n₀ + 3 ≤ w.heap.size) (W : World) (l : Nat) (o o' : Obj) (hl : w.heap.size ≤ l) (h : W.heap[l]? = some o) (_ : o.isCells = false) (_ : o.isWalk = false) : FB n₀ W (W.putObj l o') := by
 have hg := grownBy_putObj' W l o'
 exact ⟨hg.os, hg.tape, hg.output, hg.size, fun k hk hne => hg.block k (by have := (Array.getElem?_eq_some_iff.1 h).1; omega) (fun e => by injection e with e; omega)⟩
set_option maxHeartbeats 1000000 in
theorem fseq_in (n : Nat) (s : ByteArray) (w : World) :
   CallsIn Fence.wide n Tryz.prog 59 #[.string s, .func (.func 60) #[] #[]] w fun e w' => e = .returned (.func (.func 91) #[] #[.pointer (some ⟨w.heap.size, 0, none⟩), .pointer (some ⟨w.heap.size + 1, 0, none⟩)]) ∧ w' = (w.alloc (.cells #[.string s] 9)).alloc (.cells #[.func (.func 60) #[] #[]] 108) := by
 refine callsIn_of_wp Tryz.func59 rfl trivial ?_ rfl
 simp only [Tryz.ntmps59, List.size_toArray, List.length_cons, List.length_nil, Nat.reduceAdd, Nat.reduceSub, Array.replicate_succ, Array.replicate_zero, List.push_toArray, List.append_toArray, List.nil_append, List.cons_append]
 gi_wp2
 go_ret
 exact ⟨rfl, rfl⟩
theorem info_str : (Tryz.prog.info? 9).map (fun i => (i.zero, i.size, i.bytes)) = some (some (.string ⟨#[]⟩), 1, 16) := by kernel_rfl
set_option maxHeartbeats 4000000 in
theorem words_in (n : Nat) (hn : 3 ≤ n) (s : ByteArray) (hs : s.size ≤ 1099511627776) (w : World) (hL : LaidR w) :
   CallsIn Fence.wide n Tryz.prog 37 #[.string s] w fun e W' => ∃ v, e = .returned v ∧ W'.ownsRow w.heap.size 9 1 v (wordsP s).length ((wordsP s).map Value.string) ∧ Below w.heap.size w W' := by
 have h1 : 1 ≤ n := by omega
 have hwl : (wordsP s).length ≤ 1099511627777 := by
   have := words_length s.data.toList []
   rw [data_length] at this
   unfold wordsP
   omega
 obtain ⟨i0, hi, hz0, hz1, hz2⟩ := info_parts info_str
 refine callsIn_of_wp_marks Tryz.func37 rfl trivial ?_ rfl
 simp only [Tryz.ntmps37, List.size_toArray, List.length_cons, List.length_nil, Nat.reduceAdd, Nat.reduceSub, Array.replicate_succ, Array.replicate_zero, List.push_toArray, List.append_toArray, List.nil_append, List.cons_append]
 gi_wp2_with (refine ⟨trivial, ?_⟩; gi_at_call 59; refine (fseq_in (n - 1) s _).mono ?_; rintro e w' ⟨rfl, rfl⟩)
 have bO := Boxed.new w 31 (.slice none 0 0)
 have b1 := Boxed.new (w.alloc (.cells #[.slice none 0 0] 31)) 9 (.string s)
 rw [World.size_alloc] at b1
 have b2 := Boxed.new ((w.alloc (.cells #[.slice none 0 0] 31)).alloc (.cells #[.string s] 9)) 108 (.func (.func 60) #[] #[])
 rw [World.size_alloc, World.size_alloc] at b2
 have hB0 : Below w.heap.size w (((w.alloc (.cells #[.slice none 0 0] 31)).alloc (.cells #[.string s] 9)).alloc (.cells #[.func (.func 60) #[] #[]] 108)) := below_alloc (below_alloc (below_alloc (Below.refl _ _) _) _) _
 have hseq : SeqStopsK Fence.wide (n - 1) Tryz.prog 91 #[.pointer (some ⟨w.heap.size + 1, 0, none⟩), .pointer (some ⟨w.heap.size + 2, 0, none⟩)] (fun x : ByteArray => #[Value.string x]) (FB w.heap.size) (fun ys => ys = wordsP s) (fun pre => pre <+: wordsP s) (wordsP s).length
     (((w.alloc (.cells #[.slice none 0 0] 31)).alloc (.cells #[.string s] 9)).alloc (.cells #[.func (.func 60) #[] #[]] 108)) := by
   intro l J Jx W hW hJ hJx hY h0
   have hsz : w.heap.size + 3 ≤ W.heap.size := by have := hW.size; simp at this; omega
   exact fields_in (n - 1) (by omega) l w.heap.size (w.heap.size + 1) (w.heap.size + 2) s (by omega) J Jx (FB w.heap.size) W (FB.kpok _ _ hsz) hY
     (fun pre W W' hj hb => hJ pre W W' none hj (grown_of_below hb none) (fun r e => by cases e)) w hL (Nat.le_refl _) (hB0.trans (hW.mono (by simp; omega))) (by omega)
     ((hW.cell (p := ⟨w.heap.size + 1, 0, none⟩) (by simp)).trans (b1.alloc _).cell) ((hW.cell (p := ⟨w.heap.size + 2, 0, none⟩) (by simp)).trans b2.cell) h0
 refine wpIn_rangeFunc_ownG rfl h1 (gf := 91) (lb := #[.pointer (some ⟨w.heap.size + 1, 0, none⟩), .pointer (some ⟨w.heap.size + 2, 0, none⟩)]) rfl trivial (enters_of Tryz.func91 (by kernel_rfl) rfl)
   hseq (fun h k => h.trans k) (fun W l o o' hl h hc hw => FB.b (by simp) W l o o' hl h hc hw) (Below.refl _ _) (fun _ => rfl)
   (fun pre W => (∃ v, Boxed W w.heap.size 31 v ∧ W.ownsRow (w.heap.size + 3) 9 1 v pre.length (pre.map Value.string) ∧ True) ∧ (Below w.heap.size w W ∧ w.heap.size + 3 ≤ W.heap.size))
   (fun _ _ _ => False)
   (OwnFrom.and (Own.from (holdsRow_own (w.heap.size + 3) w.heap.size 31 9 1 (fun pre : List ByteArray => pre.length) (fun pre => pre.map Value.string) (fun _ _ => True)) _) (OwnFrom.and (ownFrom_below (Nat.le_refl _) (by simp; omega)) (fun s A B row hs hg hr => Nat.le_trans hs hg.size)))
   (fun _ _ _ _ _ hs _ _ => hs)
   ⟨⟨_, (bO.alloc _).alloc _, World.ownsRow_nil _ _ _ _, trivial⟩, hB0, by simp⟩
   (fun x => { tmps := #[.string s, undef, .slice none 0 0, .pointer (some ⟨w.heap.size, 0, none⟩), .string x, .string s, .func (.func 91) #[] #[.pointer (some ⟨w.heap.size + 1, 0, none⟩), .pointer (some ⟨w.heap.size + 2, 0, none⟩)], .string x, undef, undef, undef, undef, undef], defers := [] }) ?assign ?body ?done ?stop
 case assign =>
   intro l x W K hK
   gi_wp2
   exact hK
 case body =>
   rintro l pre x W ⟨⟨v, hv, hrow, -⟩, hB, hsz⟩ hlt
   have hc := hv.cell
   gi_wp2_with (gi_at_builtin; refine wpListIn_append_own _ rfl _ _ 31 rfl (w.heap.size + 3) 9 i0 (.string ⟨#[]⟩) 1 16 Tryz.underlying31 hi hz0 hz1 hz2 rfl (by decide) _ _ _ rfl (hrow.alloc _) ⟨W.heap.size, 0, none⟩ 1 1 [.string x] rfl rfl (cell_one_new _ _ _) (by simp [Value.oneCell']) (by simp only [maxLen]; omega) (by omega) (by simp; omega) ?_; intro v' w1 hown' hgrow _; obtain ⟨g', cap', rfl⟩ := ownsRow_succ hown'; obtain ⟨hv1, hv2, hr2, hk2, hb2⟩ := hv.appended (by decide) (own_weaken hrow (Nat.le_add_right _ 3)) hB.size (Nat.le_refl _) (own_weaken hown' (Nat.le_add_right _ 3)) hgrow; have hc1 := hv1.cell; have hf1 := hv1.frozen)
   refine ⟨hk2.from _, ?_, ⟨_, hv2, by simpa using hown'.kept (grownBy_setCell' w1 w.heap.size _) (.inr (hv1.not_row (by decide) hown').symm), trivial⟩, hB.trans hb2, Nat.le_trans hsz hb2.size⟩
   refine ⟨hb2.os, hb2.tape, hb2.output, hb2.size, fun k hk hne => ?_⟩
   rw [Below.heap_setCell w1 _ _ k hne, hgrow.block k (by simp; omega) (fun e => by have := own_base hrow k e.symm; omega)]
   exact Below.heap_alloc W _ k (by omega)
 case done =>
   rintro D ys W hD rfl ⟨⟨v, hv, hrow, -⟩, hB, hsz⟩ hK
   have hc := hv.cell
   gi_wp2
   refine ⟨by simp, .inl ⟨_, _, rfl, run_takeDeferred hK, ?_⟩⟩
   exact ⟨_, results_tmp rfl _ _ _, v, rfl, own_weaken (ownsRow_putObj hrow _ hK rfl) (Nat.le_add_right _ 3), hB.trans (belowK_b (w := w) (Nat.le_refl _) W D _ _ (by simp at hD; omega) hK rfl rfl)⟩
 case stop =>
   rintro D c pre W _ _ h _
   exact h.elim
theorem words_calls (s : ByteArray) (hs : s.size ≤ 1099511627776) (w : World) (hL : LaidR w) :
   Calls Tryz.prog 37 #[.string s] w fun e W' => ∃ v, e = .returned v ∧ Kd.string.R 9 W' w.heap.size (fun _ => True) v (wordsP s) ∧ Below w.heap.size w W' := by
 refine (callsIn_wide.1 (words_in 3 (by omega) s hs w hL)).mono ?_
 rintro e W' ⟨v, rfl, ho, hb⟩
 exact ⟨v, rfl, ⟨fun _ _ => trivial, ⟨_, ho, (Kd.reps_scalar _).imp_ (fun _ _ h => h)⟩⟩, hb⟩
end Go.Proofs.YticndoihkfbpoaaGreatDoor
