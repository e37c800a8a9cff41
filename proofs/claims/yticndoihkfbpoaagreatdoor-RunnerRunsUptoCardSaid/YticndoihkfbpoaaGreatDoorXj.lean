/- Package reread: Words. -/
import Derived.Test.YticndoihkfbpoaaGreatDoorUo
import Derived.Defers
import Derived.Recover
import Derived.Tactics2
import Derived.Laws.Pointers
import Derived.Test.YticndoihkfbpoaaGreatDoorUl
import Derived.Test.YticndoihkfbpoaaGreatDoorXi
namespace Go.Proofs.YticndoihkfbpoaaGreatDoor
open Go Go.RowKit Go.Lib Go.Shelf Go.Proofs.YticndoihkfbpoaaGreatDoorW.PrintWords Go.Proofs.YticndoihkfbpoaaGreatDoor.PScope
set_option maxRecDepth 100000
set_option linter.unusedSimpArgs false
set_option linter.unusedVariables false
attribute [local go_sem] Oper.semAt_some
structure FB (n₀ : Nat) (W W' : World) : Prop where
 os : W'.os = W.os
 tape : W'.tape = W.tape
 output : W'.output = W.output
 size : W.heap.size ≤ W'.heap.size
 block : ∀ k, k < n₀ + 3 → k ≠ n₀ → W'.heap[k]? = W.heap[k]?
theorem FB.trans {n₀ : Nat} {a b c : World} (h : FB n₀ a b) (k : FB n₀ b c) : FB n₀ a c := ⟨k.os.trans h.os, k.tape.trans h.tape, k.output.trans h.output, Nat.le_trans h.size k.size, fun i hi hn => (k.block i hi hn).trans (h.block i hi hn)⟩
theorem FB.of_below {n₀ : Nat} {a b : World} (hn : n₀ + 3 ≤ a.heap.size) (h : Below a.heap.size a b) : FB n₀ a b := ⟨h.os, h.tape, h.output, h.size, fun i hi _ => h.block i (by omega)⟩
theorem FB.kpok (n₀ N : Nat) (hN : n₀ + 3 ≤ N) : KpOk (FB n₀) n₀ N (n₀ + 1) (n₀ + 2) :=
 ⟨fun _ _ _ h k => h.trans k, fun A B hA hb => FB.of_below (by omega) hb, fun A B h => ⟨h.os, h.tape, h.output, h.size, fun k hk => h.block k (by omega) (by omega)⟩,
  fun A B h => World.cell?_of_block (w := A) (h.block (n₀ + 1) (by omega) (by omega)), fun A B h => World.cell?_of_block (w := A) (h.block (n₀ + 2) (by omega) (by omega))⟩
theorem FB.b {n₀ : Nat} {w : World} (hn : n₀ + 3 ≤ w.heap.size) (W : World) (l : Nat) (o o' : Obj) (hl : w.heap.size ≤ l) (h : W.heap[l]? = some o) (_ : o.isCells = false) (_ : o.isWalk = false) : FB n₀ W (W.putObj l o') := by
 have hg := grownBy_putObj' W l o'
 exact ⟨hg.os, hg.tape, hg.output, hg.size, fun k hk hne => hg.block k (by have := (Array.getElem?_eq_some_iff.1 h).1; omega) (fun e => by injection e with e; omega)⟩
set_option maxHeartbeats 1000000 in
theorem fseq_in (n : Nat) (s : ByteArray) (w : World) :
   CallsIn Fence.wide n Tryz.prog 59 #[.string s, .func (.func 60) #[] #[]] w fun e w' => e = .returned (.func (.func 91) #[] #[.pointer (some ⟨w.heap.size, 0, none⟩), .pointer (some ⟨w.heap.size + 1, 0, none⟩)]) ∧ w' = (w.alloc (.cells #[.string s] 9)).alloc (.cells #[.func (.func 60) #[] #[]] 108) := by
 refine callsIn_of_wp Tryz.func59 rfl trivial ?_ rfl
 simp only [Tryz.ntmps59, List.size_toArray, List.length_cons, List.length_nil, Nat.reduceAdd, Nat.reduceSub, Array.replicate_succ, Array.replicate_zero, List.push_toArray, List.append_toArray, List.nil_append, List.cons_append]
 gi_wp2
 go_ret
 exact ⟨rfl, rfl⟩
theorem info_str : (Tryz.prog.info? 9).map (fun i => (i.zero, i.size, i.bytes)) = some (some (.string ⟨#[]⟩), 1, 16) := by kernel_rfl
set_option maxHeartbeats 4000000 in
theorem words_in (n : Nat) (hn : 3 ≤ n) (s : ByteArray) (hs : s.size ≤ 1099511627776) (w : World) (hL : LaidR w) :
   CallsIn Fence.wide n Tryz.prog 37 #[.string s] w fun e W' => ∃ v, e = .returned v ∧ W'.ownsRow w.heap.size 9 1 v (wordsP s).length ((wordsP s).map Value.string) ∧ Below w.heap.size w W' := by
 have h1 : 1 ≤ n := by omega
 have hwl : (wordsP s).length ≤ 1099511627777 := by
   have := words_length s.data.toList []
   rw [data_length] at this
   unfold wordsP
   omega
 obtain ⟨i0, hi, hz0, hz1, hz2⟩ := info_parts info_str
 refine callsIn_of_wp_marks Tryz.func37 rfl trivial ?_ rfl
 simp only [Tryz.ntmps37, List.size_toArray, List.length_cons, List.length_nil, Nat.reduceAdd, Nat.reduceSub, Array.replicate_succ, Array.replicate_zero, List.push_toArray, List.append_toArray, List.nil_append, List.cons_append]
 gi_wp2_with (refine ⟨trivial, ?_⟩; gi_at_call 59; refine (fseq_in (n - 1) s _).mono ?_; rintro e w' ⟨rfl, rfl⟩)
 have bO := Boxed.new w 31 (.slice none 0 0)
 have b1 := Boxed.new (w.alloc (.cells #[.slice none 0 0] 31)) 9 (.string s)
 rw [World.size_alloc] at b1
 have b2 := Boxed.new ((w.alloc (.cells #[.slice none 0 0] 31)).alloc (.cells #[.string s] 9)) 108 (.func (.func 60) #[] #[])
 rw [World.size_alloc, World.size_alloc] at b2
 have hB0 : Below w.heap.size w (((w.alloc (.cells #[.slice none 0 0] 31)).alloc (.cells #[.string s] 9)).alloc (.cells #[.func (.func 60) #[] #[]] 108)) := below_alloc (below_alloc (below_alloc (Below.refl _ _) _) _) _
 have hseq : SeqStopsK Fence.wide (n - 1) Tryz.prog 91 #[.pointer (some ⟨w.heap.size + 1, 0, none⟩), .pointer (some ⟨w.heap.size + 2, 0, none⟩)] (fun x : ByteArray => #[Value.string x]) (FB w.heap.size) (fun ys => ys = wordsP s) (fun pre => pre <+: wordsP s) (wordsP s).length
     (((w.alloc (.cells #[.slice none 0 0] 31)).alloc (.cells #[.string s] 9)).alloc (.cells #[.func (.func 60) #[] #[]] 108)) := by
   intro l J Jx W hW hJ hJx hY h0
   have hsz : w.heap.size + 3 ≤ W.heap.size := by have := hW.size; simp at this; omega
   exact fields_in (n - 1) (by omega) l w.heap.size (w.heap.size + 1) (w.heap.size + 2) s (by omega) J Jx (FB w.heap.size) W (FB.kpok _ _ hsz) hY
     (fun pre W W' hj hb => hJ pre W W' none hj (grown_of_below hb none) (fun r e => by cases e)) w hL (Nat.le_refl _) (hB0.trans (hW.mono (by simp; omega))) (by omega)
     ((hW.cell (p := ⟨w.heap.size + 1, 0, none⟩) (by simp)).trans (b1.alloc _).cell) ((hW.cell (p := ⟨w.heap.size + 2, 0, none⟩) (by simp)).trans b2.cell) h0
 refine wpIn_rangeFunc_ownG rfl h1 (gf := 91) (lb := #[.pointer (some ⟨w.heap.size + 1, 0, none⟩), .pointer (some ⟨w.heap.size + 2, 0, none⟩)]) rfl trivial (enters_of Tryz.func91 (by kernel_rfl) rfl)
   hseq (fun h k => h.trans k) (fun W l o o' hl h hc hw => FB.b (by simp) W l o o' hl h hc hw) (Below.refl _ _) (fun _ => rfl)
   (fun pre W => (∃ v, Boxed W w.heap.size 31 v ∧ W.ownsRow (w.heap.size + 3) 9 1 v pre.length (pre.map Value.string) ∧ True) ∧ (Below w.heap.size w W ∧ w.heap.size + 3 ≤ W.heap.size))
   (fun _ _ _ => False)
   (OwnFrom.and (Own.from (holdsRow_own (w.heap.size + 3) w.heap.size 31 9 1 (fun pre : List ByteArray => pre.length) (fun pre => pre.map Value.string) (fun _ _ => True)) _) (OwnFrom.and (ownFrom_below (Nat.le_refl _) (by simp; omega)) (fun s A B row hs hg hr => Nat.le_trans hs hg.size)))
   (fun _ _ _ _ _ hs _ _ => hs)
   ⟨⟨_, (bO.alloc _).alloc _, World.ownsRow_nil _ _ _ _, trivial⟩, hB0, by simp⟩
   (fun x => { tmps := #[.string s, undef, .slice none 0 0, .pointer (some ⟨w.heap.size, 0, none⟩), .string x, .string s, .func (.func 91) #[] #[.pointer (some ⟨w.heap.size + 1, 0, none⟩), .pointer (some ⟨w.heap.size + 2, 0, none⟩)], .string x, undef, undef, undef, undef, undef], defers := [] }) ?assign ?body ?done ?stop
 case assign =>
   intro l x W K hK
   gi_wp2
   exact hK
 case body =>
   rintro l pre x W ⟨⟨v, hv, hrow, -⟩, hB, hsz⟩ hlt
   have hc := hv.cell
   gi_wp2_with (gi_at_builtin; refine wpListIn_append_own _ rfl _ _ 31 rfl (w.heap.size + 3) 9 i0 (.string ⟨#[]⟩) 1 16 Tryz.underlying31 hi hz0 hz1 hz2 rfl (by decide) _ _ _ rfl (hrow.alloc _) ⟨W.heap.size, 0, none⟩ 1 1 [.string x] rfl rfl (cell_one_new _ _ _) (by simp [Value.oneCell']) (by simp only [maxLen]; omega) (by omega) (by simp; omega) ?_; intro v' w1 hown' hgrow _; obtain ⟨g', cap', rfl⟩ := ownsRow_succ hown'; obtain ⟨hv1, hv2, hr2, hk2, hb2⟩ := hv.appended (by decide) (own_weaken hrow (Nat.le_add_right _ 3)) hB.size (Nat.le_refl _) (own_weaken hown' (Nat.le_add_right _ 3)) hgrow; have hc1 := hv1.cell; have hf1 := hv1.frozen)
   refine ⟨hk2.from _, ?_, ⟨_, hv2, by simpa using hown'.kept (grownBy_setCell' w1 w.heap.size _) (.inr (hv1.not_row (by decide) hown').symm), trivial⟩, hB.trans hb2, Nat.le_trans hsz hb2.size⟩
   refine ⟨hb2.os, hb2.tape, hb2.output, hb2.size, fun k hk hne => ?_⟩
   rw [Below.heap_setCell w1 _ _ k hne, hgrow.block k (by simp; omega) (fun e => by have := own_base hrow k e.symm; omega)]
   exact Below.heap_alloc W _ k (by omega)
 case done =>
   rintro D ys W hD rfl ⟨⟨v, hv, hrow, -⟩, hB, hsz⟩ hK
   have hc := hv.cell
   gi_wp2
   refine ⟨by simp, .inl ⟨_, _, rfl, run_takeDeferred hK, ?_⟩⟩
   exact ⟨_, results_tmp rfl _ _ _, v, rfl, own_weaken (ownsRow_putObj hrow _ hK rfl) (Nat.le_add_right _ 3), hB.trans (belowK_b (w := w) (Nat.le_refl _) W D _ _ (by simp at hD; omega) hK rfl rfl)⟩
 case stop =>
   rintro D c pre W _ _ h _
   exact h.elim
theorem words_calls (s : ByteArray) (hs : s.size ≤ 1099511627776) (w : World) (hL : LaidR w) :
   Calls Tryz.prog 37 #[.string s] w fun e W' => ∃ v, e = .returned v ∧ Kd.string.R 9 W' w.heap.size (fun _ => True) v (wordsP s) ∧ Below w.heap.size w W' := by
 refine (callsIn_wide.1 (words_in 3 (by omega) s hs w hL)).mono ?_
 rintro e W' ⟨v, rfl, ho, hb⟩
 exact ⟨v, rfl, ⟨fun _ _ => trivial, ⟨_, ho, (Kd.reps_scalar _).imp_ (fun _ _ h => h)⟩⟩, hb⟩
end Go.Proofs.YticndoihkfbpoaaGreatDoor
namespace Go.Proofs.YticndoihkfbpoaaGreatDoor
open Go Go.RowKit Go.Lib Go.Proofs.YticndoihkfbpoaaGreatDoorW.PrintWords Go.Proofs.YticndoihkfbpoaaGreatDoor.PScope
set_option maxRecDepth 100000
set_option linter.unusedSimpArgs false
set_option linter.unusedVariables false
theorem wpS_of_wpQ {P : Program} {c : Code} {Q0 : Exit → Act → List Frame → World → Prop} {a : Act} {cs : List Frame} {w : World} (h : ∀ Q : Exit → Act → World → Prop, (∀ e a' w', Q0 e a' cs w' → Q e a' w') → c.wp P Q a w) : c.wpS P Q0 a cs w := wpS_of_wp (h _ (fun _ _ _ h => h))
theorem run_assert_fault (f : Flt) (w : World) : (Instr.typeAssert (fltV f) 20 61 true).run Tryz.prog w = .ok (.tuple #[.agg #[.int .i64 f.1, .int .i64 (f.2 : Int), .int .i64 0], .bool true]) w := by
 simp [Instr.typeAssert, run_underlying Tryz.underlying61, go_sem, Result.andThen]
theorem parse1_idle (b2 b3 : Nat) (w : World) :
   CallsD Tryz.prog 54 #[.pointer (some ⟨b2, 0, none⟩), .pointer (some ⟨b3, 0, none⟩)] .returning w fun e u' w' => e = .returned (.tuple #[]) ∧ u' = .returning ∧ w' = w := by
 refine callsD_of_wpS Tryz.func54 rfl fun c₀ cs hu => ?_
 simp only [Tryz.ntmps54, List.size_toArray, List.length_cons, List.length_nil, Nat.reduceAdd, Nat.reduceSub, Array.replicate_succ, Array.replicate_zero, List.push_toArray, List.append_toArray, List.nil_append, List.cons_append]
 apply wpS_seq
 apply wpS_region
 simp [wpOpsS, go_sem, recoverD, hu, Tryz.ntmps54, Exit.thenS]
 refine wpS_of_wpQ fun Q hQ => ?_
 have HQ := Aside0.mk hQ
 clear hQ
 go_wp2_with fail
 refine HQ.out _ _ _ ?_
 cases c₀
 simp_all [bodyPostS, results, Tryz.results54]
set_option maxHeartbeats 1000000 in
theorem parse1_panicking (f : Flt) (older : List PanicEntry) (b2 b3 : Nat) (v : Value) (c0 c1 c2 : Value) (hne : b2 ≠ b3) (w : World) (h2 : w.heap[b2]? = some (.cells #[v] 24 (0, 0))) (h3 : w.heap[b3]? = some (.cells #[c0, c1, c2] 61 (0, 0))) :
   CallsD Tryz.prog 54 #[.pointer (some ⟨b2, 0, none⟩), .pointer (some ⟨b3, 0, none⟩)] (.panicking ({ v := fltV f, recovered := false } :: older)) w fun e u' w' =>
     e = .returned (.tuple #[]) ∧ u' = .panicking ({ v := fltV f, recovered := true } :: older) ∧ w'.heap[b2]? = some (.cells #[.slice none 0 0] 24 (0, 0)) ∧ w'.heap[b3]? = some (.cells #[.int .i64 f.1, .int .i64 (f.2 : Int), .int .i64 0] 61 (0, 0)) ∧ Turned (fun k => k = b2 ∨ k = b3) w w' := by
 refine callsD_of_wpS Tryz.func54 rfl fun c₀ cs hu => ?_
 simp only [Tryz.ntmps54, List.size_toArray, List.length_cons, List.length_nil, Nat.reduceAdd, Nat.reduceSub, Array.replicate_succ, Array.replicate_zero, List.push_toArray, List.append_toArray, List.nil_append, List.cons_append]
 apply wpS_seq
 apply wpS_region
 simp [wpOpsS, go_sem, recoverD, hu, Tryz.ntmps54, Exit.thenS]
 refine wpS_of_wpQ fun Q hQ => ?_
 have HQ := Aside0.mk hQ
 clear hQ
 have H2 := Aside0.mk h2
 have H3 := Aside0.mk h3
 have LT2 := Aside0.mk (blk_lt h2)
 clear h2 h3
 have hta := run_assert_fault f
 go_upto_region 5 with ((with_reducible refine gate_store (t := 61) (p := 3) rfl ?_); refine store_whole rfl rfl 61 _ _ rfl w.heap.size _ 61 rfl (blk_new _ _) _ rfl rfl rfl (by simp [Value.oneCell']) ?_; intro w2 hb2 hg2; have HT := Aside0.mk (turned_as (Turned.refl (fun k => k = b2 ∨ k = b3) w) hg2); replace H2 := Aside0.mk (blk_as H2.out hg2); replace H3 := Aside0.mk (blk_as H3.out hg2); have e0 := (blk_cell hb2 0).trans rfl; have e1 := (blk_cell hb2 1).trans rfl; have e2 := (blk_cell hb2 2).trans rfl; have BN := Aside0.mk hb2; clear hb2 hg2)
 have d2 := (blk_cell H2.out 0).trans rfl
 have f2 := blk_frozen H2.out 0
 have d3 := (blk_cell H3.out 0).trans rfl
 have d4 := (blk_cell H3.out 1).trans rfl
 have d5 := (blk_cell H3.out 2).trans rfl
 have f3 := blk_frozen H3.out 0
 have f4 := blk_frozen H3.out 1
 have f5 := blk_frozen H3.out 2
 have hn2 : w.heap.size ≠ b2 := by have := LT2.out; omega
 have g0 := fun (u : Value) => (blk_cell (blk_far (p := ⟨b2, 0, none⟩) BN.out hn2 u) 0).trans rfl
 have g1 := fun (u : Value) => (blk_cell (blk_far (p := ⟨b2, 0, none⟩) BN.out hn2 u) 1).trans rfl
 have g2 := fun (u : Value) => (blk_cell (blk_far (p := ⟨b2, 0, none⟩) BN.out hn2 u) 2).trans rfl
 have k0 := fun (u : Value) => (blk_cell (blk_far (p := ⟨b2, 0, none⟩) (blk_drew BN.out) hn2 u) 0).trans rfl
 have k1 := fun (u : Value) => (blk_cell (blk_far (p := ⟨b2, 0, none⟩) (blk_drew BN.out) hn2 u) 1).trans rfl
 have k2 := fun (u : Value) => (blk_cell (blk_far (p := ⟨b2, 0, none⟩) (blk_drew BN.out) hn2 u) 2).trans rfl
 have hne1 := hne
 have hne2 : b3 ≠ b2 := fun e => hne e.symm
 clear hn2
 go_region
 have q2 := blk_put (cs := #[v]) H2.out 0 (.slice none 0 0) rfl
 have q2a := blk_far (p := ⟨b3, 0, none⟩) q2 hne (.int .i64 f.1)
 have q2b := blk_far (p := ⟨b3, 1, none⟩) q2a hne (.int .i64 (f.2 : Int))
 have q2c := blk_far (p := ⟨b3, 2, none⟩) q2b hne (.int .i64 0)
 have q3 := blk_far (p := ⟨b2, 0, none⟩) H3.out hne2 (.slice none 0 0)
 have q3a := blk_put (cs := #[c0, c1, c2]) q3 0 (.int .i64 f.1) rfl
 have q3b := blk_put (cs := #[.int .i64 f.1, c1, c2]) q3a 1 (.int .i64 (f.2 : Int)) rfl
 have q3c := blk_put (cs := #[.int .i64 f.1, .int .i64 (f.2 : Int), c2]) q3b 2 (.int .i64 0) rfl
 have qt := ((((HT.out.set (p := ⟨b2, 0, none⟩) (.inl rfl) (.slice none 0 0)).set (p := ⟨b3, 0, none⟩) (.inr rfl) (.int .i64 f.1)).set (p := ⟨b3, 1, none⟩) (.inr rfl) (.int .i64 (f.2 : Int))).set (p := ⟨b3, 2, none⟩) (.inr rfl) (.int .i64 0)).drew
 exact HQ.out _ _ _ ⟨rfl, _, rfl, _, results_none rfl _ _ _, rfl, rfl, blk_drew q2c, blk_drew q3c, qt⟩
end Go.Proofs.YticndoihkfbpoaaGreatDoor
namespace Go.Proofs.YticndoihkfbpoaaGreatDoor
open Go Go.RowKit Go.Lib Go.Proofs.YticndoihkfbpoaaGreatDoorW.PrintWords Go.Proofs.YticndoihkfbpoaaGreatDoor.PScope
set_option maxRecDepth 100000
set_option linter.unusedSimpArgs false
set_option linter.unusedVariables false
attribute [local irreducible] wpStill
abbrev trapV : Value := .iface 85 (.agg #[])
theorem run_assert_trap (w : World) : (Instr.typeAssert trapV 20 85 true).run Tryz.prog w = .ok (.tuple #[.agg #[], .bool true]) w := by
 simp [Instr.typeAssert, run_underlying Tryz.underlying85, go_sem, Result.andThen]
theorem run_loadVar_one {P : Program} (w : World) (g : Nat) (t ty : TypeId) (v : Value) (fr : Nat × Nat) (d : TypeDesc) (hg : w.heap[g]? = some (.cells #[v] t fr)) (hu : P.underlying ty = some d) (hd : (match d with | .struct _ | .array _ _ => true | _ => false) = false) :
   (loadVar ty ⟨g, 0, none⟩).run P w = .ok v w := by
 have hc : w.cell? ⟨g, 0, none⟩ = some v := by unfold World.cell?; rw [hg]; rfl
 have hl : (load ⟨g, 0, none⟩).run P w = .ok v w := by simp [hc, go_sem]
 unfold loadVar isAgg
 cases d <;> simp_all [run_underlying hu, Result.andThen]
theorem results_pp {P : Program} {fn : Func} {p p' : Tmp} {ty ty' : TypeId} (h : fn.results = #[.cell p ty, .cell p' ty']) (tmps : Array Value) (w : World) (g g' : Nat) (t t' : TypeId) (v v' : Value) (fr fr' : Nat × Nat) (d d' : TypeDesc)
   (hp : tmps.getD p undef = .pointer (some ⟨g, 0, none⟩)) (hg : w.heap[g]? = some (.cells #[v] t fr)) (hu : P.underlying ty = some d) (hd : (match d with | .struct _ | .array _ _ => true | _ => false) = false)
   (hp' : tmps.getD p' undef = .pointer (some ⟨g', 0, none⟩)) (hg' : w.heap[g']? = some (.cells #[v'] t' fr')) (hu' : P.underlying ty' = some d') (hd' : (match d' with | .struct _ | .array _ _ => true | _ => false) = false) :
   (results fn tmps).run P w = .ok (.tuple #[v, v']) w := by
 have h1 : tmps[p]?.getD undef = .pointer (some ⟨g, 0, none⟩) := by simpa using hp
 have h2 : tmps[p']?.getD undef = .pointer (some ⟨g', 0, none⟩) := by simpa using hp'
 simp [results, h, h1, h2, asAddr, run_loadVar_one w g t ty v fr d hg hu hd, run_loadVar_one w g' t' ty' v' fr' d' hg' hu' hd']
theorem step1_idle (b2 b4 b5 : Nat) (w : World) :
   CallsD Tryz.prog 51 #[.pointer (some ⟨b2, 0, none⟩), .pointer (some ⟨b4, 0, none⟩), .pointer (some ⟨b5, 0, none⟩)] .returning w fun e u' w' => e = .returned (.tuple #[]) ∧ u' = .returning ∧ w' = w := by
 refine callsD_of_wpS Tryz.func51 rfl fun c₀ cs hu => ?_
 simp only [Tryz.ntmps51, List.size_toArray, List.length_cons, List.length_nil, Nat.reduceAdd, Nat.reduceSub, Array.replicate_succ, Array.replicate_zero, List.push_toArray, List.append_toArray, List.nil_append, List.cons_append]
 apply wpS_seq
 apply wpS_region
 simp [wpOpsS, go_sem, recoverD, hu, Tryz.ntmps51, Exit.thenS]
 refine wpS_of_wpQ fun Q hQ => ?_
 have HQ := Aside0.mk hQ
 clear hQ
 go_wp2_with fail
 refine HQ.out _ _ _ ?_
 cases c₀
 simp_all [bodyPostS, results, Tryz.results51]
section
variable {w0 w w' : World} {g : Nat} {ma : Addr} {A : Option Addr} {c : Nat} {l : List FF} {N : Nat} {m : List Cl} {tr : Bool} {cn : Int}
theorem RAt.trap (h : RAt w0 w g ma A c l N m tr cn) (t : Bool) : RAt w0 (w.setCell ⟨g, 2, none⟩ (.bool t)) g ma A c l N m t cn :=
 ⟨blk_put h.blk 2 (.bool t) rfl, ⟨h.mem.1, blk_far h.mem.2 (p := ⟨g, 2, none⟩) (fun e => h.ne e.symm) _⟩, h.len, h.few, h.hg, h.hb, h.ne, below_set h.below h.hg⟩
theorem RAt.countS (h : RAt w0 w g ma A c l N m tr cn) (v : Int) : RAt w0 (w.setCell ⟨g, 3, none⟩ (.int .i64 v)) g ma A c l N m tr v :=
 ⟨blk_put h.blk 3 (.int .i64 v) rfl, ⟨h.mem.1, blk_far h.mem.2 (p := ⟨g, 3, none⟩) (fun e => h.ne e.symm) _⟩, h.len, h.few, h.hg, h.hb, h.ne, below_set h.below h.hg⟩
theorem RAt.farS (h : RAt w0 w g ma A c l N m tr cn) {b j : Nat} (h1 : g ≠ b) (h2 : ma.block ≠ b) (h3 : w0.heap.size ≤ b) (u : Value) : RAt w0 (w.setCell ⟨b, j, none⟩ u) g ma A c l N m tr cn :=
 ⟨blk_far h.blk (p := ⟨b, j, none⟩) h1 _, ⟨h.mem.1, blk_far h.mem.2 (p := ⟨b, j, none⟩) h2 _⟩, h.len, h.few, h.hg, h.hb, h.ne, below_set h.below h3⟩
set_option maxHeartbeats 1000000 in
theorem step1_panicking (older : List PanicEntry) (b2 b4 b5 : Nat) (v4 v5 : Value) (hR : RAt w0 w g ma A c l N m tr cn) (h2 : w.heap[b2]? = some (.cells #[.pointer (some ⟨g, 0, none⟩)] 43 (0, 0))) (h4 : w.heap[b4]? = some (.cells #[v4] 49 (0, 0))) (h5 : w.heap[b5]? = some (.cells #[v5] 26 (0, 0)))
   (n1 : b4 ≠ b5) (n2 : g ≠ b4) (n3 : g ≠ b5) (n4 : ma.block ≠ b4) (n5 : ma.block ≠ b5) (n6 : w0.heap.size ≤ b4) (n7 : w0.heap.size ≤ b5) :
   CallsD Tryz.prog 51 #[.pointer (some ⟨b2, 0, none⟩), .pointer (some ⟨b4, 0, none⟩), .pointer (some ⟨b5, 0, none⟩)] (.panicking ({ v := trapV, recovered := false } :: older)) w fun e u' w' =>
     e = .returned (.tuple #[]) ∧ u' = .panicking ({ v := trapV, recovered := true } :: older) ∧ RAt w0 w' g ma A c l N m true cn ∧ w'.heap[b4]? = some (.cells #[.slice none 0 0] 49 (0, 0)) ∧ w'.heap[b5]? = some (.cells #[.int .i64 12] 26 (0, 0)) ∧ Turned (fun k => k = g ∨ k = b4 ∨ k = b5) w w' := by
 refine callsD_of_wpS Tryz.func51 rfl fun c₀ cs hu => ?_
 simp only [Tryz.ntmps51, List.size_toArray, List.length_cons, List.length_nil, Nat.reduceAdd, Nat.reduceSub, Array.replicate_succ, Array.replicate_zero, List.push_toArray, List.append_toArray, List.nil_append, List.cons_append]
 apply wpS_seq
 apply wpS_region
 simp [wpOpsS, go_sem, recoverD, hu, Tryz.ntmps51, Exit.thenS]
 refine wpS_of_wpQ fun Q hQ => ?_
 have HQ := Aside0.mk hQ
 clear hQ
 have HR := Aside0.mk hR
 have B2 := Aside0.mk h2
 have B4 := Aside0.mk h4
 have B5 := Aside0.mk h5
 clear h2 h4 h5 hR
 have hta := run_assert_trap
 have HT := Aside0.mk (Turned.of_below (S := fun k => k = g ∨ k = b4 ∨ k = b5) (below_alloc (Below.refl w.heap.size w) (.cells #[] 85 (0, 0))))
 have HR1 := Aside0.mk (HR.out.below' (below_alloc (Below.refl w.heap.size w) (.cells #[] 85 (0, 0))))
 have A2 := Aside0.mk (blk_alloc B2.out (.cells #[] 85 (0, 0)))
 have A4 := Aside0.mk (blk_alloc B4.out (.cells #[] 85 (0, 0)))
 have A5 := Aside0.mk (blk_alloc B5.out (.cells #[] 85 (0, 0)))
 clear HR B2 B4 B5
 have A4' := Aside0.mk (blk_far (p := ⟨g, 2, none⟩) A4.out (fun e => n2 e.symm) (.bool true))
 have A5' := Aside0.mk (blk_far (p := ⟨g, 2, none⟩) A5.out (fun e => n3 e.symm) (.bool true))
 have A5'' := Aside0.mk (blk_far (p := ⟨b4, 0, none⟩) A5'.out (fun e => n1 e.symm) (.slice none 0 0))
 have d2 := (blk_cell A2.out 0).trans rfl
 have y2 := (blk_cell HR1.out.blk 2).trans rfl
 have f2 := blk_frozen HR1.out.blk 2
 have d4 := (blk_cell A4'.out 0).trans rfl
 have f4 := blk_frozen A4'.out 0
 have d5 := (blk_cell A5''.out 0).trans rfl
 have f5 := blk_frozen A5''.out 0
 have HRE := Aside0.mk (((HR1.out.trap true).farS (j := 0) n2 n4 n6 (.slice none 0 0)).farS (j := 0) n3 n5 n7 (.int .i64 12))
 have HTE := Aside0.mk (((HT.out.set (p := ⟨g, 2, none⟩) (.inl rfl) (.bool true)).set (p := ⟨b4, 0, none⟩) (.inr (.inl rfl)) (.slice none 0 0)).set (p := ⟨b5, 0, none⟩) (.inr (.inr rfl)) (.int .i64 12))
 have B4E := Aside0.mk (blk_far (p := ⟨b5, 0, none⟩) (blk_put (cs := #[v4]) A4'.out 0 (.slice none 0 0) rfl) n1 (.int .i64 12))
 have B5E := Aside0.mk (blk_put (cs := #[v5]) A5''.out 0 (.int .i64 12) rfl)
 clear n1 n2 n3 n4 n5 n6 n7
 go_wp2_with fail
 exact HQ.out _ _ _ ⟨rfl, _, rfl, _, results_none rfl _ _ _, rfl, rfl, HRE.out, B4E.out, B5E.out, HTE.out⟩
end
end Go.Proofs.YticndoihkfbpoaaGreatDoor
