/- Package reread: Parse: its deferred closure, which recovers. -/
import Derived.Defers
import Derived.Recover
import Derived.Tactics2
import Derived.Laws.Pointers
import Derived.Test.YticndoihkfbpoaaGreatDoorUl
import Derived.Test.YticndoihkfbpoaaGreatDoorUp
namespace Go.Proofs.YticndoihkfbpoaaGreatDoor
open Go Go.RowKit Go.Lib Go.Proofs.YticndoihkfbpoaaGreatDoorW.PrintWords Go.Proofs.YticndoihkfbpoaaGreatDoor.PScope
set_option maxRecDepth 100000
set_option linter.unusedSimpArgs false
set_option linter.unusedVariables false
theorem wpS_of_wpQ {P : Program} {c : Code} {Q0 : Exit → Act → List Frame → World → Prop} {a : Act} {cs : List Frame} {w : World} (h : ∀ Q : Exit → Act → World → Prop, (∀ e a' w', Q0 e a' cs w' → Q e a' w') → c.wp P Q a w) : c.wpS P Q0 a cs w := wpS_of_wp (h _ (fun _ _ _ h => h))
theorem run_assert_fault (f : Flt) (w : World) : (Instr.typeAssert (fltV f) 20 61 true).run Tryz.prog w = .ok (.tuple #[.agg #[.int .i64 f.1, .int .i64 (f.2 : Int), .int .i64 0], .bool true]) w := by
 simp [Instr.typeAssert, run_underlying Tryz.underlying61, go_sem, Result.andThen]
theorem parse1_idle (b2 b3 : Nat) (w : World) :
  CallsD Tryz.prog 54 #[.pointer (some ⟨b2, 0, none⟩), .pointer (some ⟨b3, 0, none⟩)] .returning w fun e u' w' => e = .returned (.tuple #[]) ∧ u' = .returning ∧ w' = w := by
 refine callsD_of_wpS Tryz.func54 rfl fun c₀ cs hu => ?_
 simp only [Tryz.ntmps54, List.size_toArray, List.length_cons, List.length_nil, Nat.reduceAdd, Nat.reduceSub, Array.replicate_succ, Array.replicate_zero, List.push_toArray, List.append_toArray, List.nil_append, List.cons_append]
 apply wpS_seq
 apply wpS_region
 simp [wpOpsS, go_sem, recoverD, hu, Tryz.ntmps54, Exit.thenS]
 refine wpS_of_wpQ fun Q hQ => ?_
 have HQ := Aside0.mk hQ
 clear hQ
 go_wp2_with fail
 refine HQ.out _ _ _ ?_
 cases c₀
 simp_all [bodyPostS, results, Tryz.results54]
set_option maxHeartbeats 1000000 in
theorem parse1_panicking (f : Flt) (older : List PanicEntry) (b2 b3 : Nat) (v : Value) (c0 c1 c2 : Value) (hne : b2 ≠ b3) (w : World) (h2 : w.heap[b2]? = some (.cells #[v] 24 (0, 0))) (h3 : w.heap[b3]? = some (.cells #[c0, c1, c2] 61 (0, 0))) :
  CallsD Tryz.prog 54 #[.pointer (some ⟨b2, 0, none⟩), .pointer (some ⟨b3, 0, none⟩)] (.panicking ({ v := fltV f, recovered := false } :: older)) w fun e u' w' =>
   e = .returned (.tuple #[]) ∧ u' = .panicking ({ v := fltV f, recovered := true } :: older) ∧ w'.heap[b2]? = some (.cells #[.slice none 0 0] 24 (0, 0)) ∧ w'.heap[b3]? = some (.cells #[.int .i64 f.1, .int .i64 (f.2 : Int), .int .i64 0] 61 (0, 0)) ∧ Turned (fun k => k = b2 ∨ k = b3) w w' := by
 refine callsD_of_wpS Tryz.func54 rfl fun c₀ cs hu => ?_
 simp only [Tryz.ntmps54, List.size_toArray, List.length_cons, List.length_nil, Nat.reduceAdd, Nat.reduceSub, Array.replicate_succ, Array.replicate_zero, List.push_toArray, List.append_toArray, List.nil_append, List.cons_append]
 apply wpS_seq
 apply wpS_region
 simp [wpOpsS, go_sem, recoverD, hu, Tryz.ntmps54, Exit.thenS]
 refine wpS_of_wpQ fun Q hQ => ?_
 have HQ := Aside0.mk hQ
 clear hQ
 have H2 := Aside0.mk h2
 have H3 := Aside0.mk h3
 have LT2 := Aside0.mk (blk_lt h2)
 clear h2 h3
 have hta := run_assert_fault f
 go_upto_region 5 with ((with_reducible refine gate_store (t := 61) (p := 3) rfl ?_); refine store_whole rfl rfl 61 _ _ rfl w.heap.size _ 61 rfl (blk_new _ _) _ rfl rfl rfl (by simp [Value.oneCell']) ?_; intro w2 hb2 hg2; have HT := Aside0.mk (turned_as (Turned.refl (fun k => k = b2 ∨ k = b3) w) hg2); replace H2 := Aside0.mk (blk_as H2.out hg2); replace H3 := Aside0.mk (blk_as H3.out hg2); have e0 := (blk_cell hb2 0).trans rfl; have e1 := (blk_cell hb2 1).trans rfl; have e2 := (blk_cell hb2 2).trans rfl; have BN := Aside0.mk hb2; clear hb2 hg2)
 have d2 := (blk_cell H2.out 0).trans rfl
 have f2 := blk_frozen H2.out 0
 have d3 := (blk_cell H3.out 0).trans rfl
 have d4 := (blk_cell H3.out 1).trans rfl
 have d5 := (blk_cell H3.out 2).trans rfl
 have f3 := blk_frozen H3.out 0
 have f4 := blk_frozen H3.out 1
 have f5 := blk_frozen H3.out 2
 have hn2 : w.heap.size ≠ b2 := by have := LT2.out; omega
 have g0 := fun (u : Value) => (blk_cell (blk_far (p := ⟨b2, 0, none⟩) BN.out hn2 u) 0).trans rfl
 have g1 := fun (u : Value) => (blk_cell (blk_far (p := ⟨b2, 0, none⟩) BN.out hn2 u) 1).trans rfl
 have g2 := fun (u : Value) => (blk_cell (blk_far (p := ⟨b2, 0, none⟩) BN.out hn2 u) 2).trans rfl
 have k0 := fun (u : Value) => (blk_cell (blk_far (p := ⟨b2, 0, none⟩) (blk_drew BN.out) hn2 u) 0).trans rfl
 have k1 := fun (u : Value) => (blk_cell (blk_far (p := ⟨b2, 0, none⟩) (blk_drew BN.out) hn2 u) 1).trans rfl
 have k2 := fun (u : Value) => (blk_cell (blk_far (p := ⟨b2, 0, none⟩) (blk_drew BN.out) hn2 u) 2).trans rfl
 have hne1 := hne
 have hne2 : b3 ≠ b2 := fun e => hne e.symm
 clear hn2
 go_region
 have q2 := blk_put (cs := #[v]) H2.out 0 (.slice none 0 0) rfl
 have q2a := blk_far (p := ⟨b3, 0, none⟩) q2 hne (.int .i64 f.1)
 have q2b := blk_far (p := ⟨b3, 1, none⟩) q2a hne (.int .i64 (f.2 : Int))
 have q2c := blk_far (p := ⟨b3, 2, none⟩) q2b hne (.int .i64 0)
 have q3 := blk_far (p := ⟨b2, 0, none⟩) H3.out hne2 (.slice none 0 0)
 have q3a := blk_put (cs := #[c0, c1, c2]) q3 0 (.int .i64 f.1) rfl
 have q3b := blk_put (cs := #[.int .i64 f.1, c1, c2]) q3a 1 (.int .i64 (f.2 : Int)) rfl
 have q3c := blk_put (cs := #[.int .i64 f.1, .int .i64 (f.2 : Int), c2]) q3b 2 (.int .i64 0) rfl
 have qt := ((((HT.out.set (p := ⟨b2, 0, none⟩) (.inl rfl) (.slice none 0 0)).set (p := ⟨b3, 0, none⟩) (.inr rfl) (.int .i64 f.1)).set (p := ⟨b3, 1, none⟩) (.inr rfl) (.int .i64 (f.2 : Int))).set (p := ⟨b3, 2, none⟩) (.inr rfl) (.int .i64 0)).drew
 exact HQ.out _ _ _ ⟨rfl, _, rfl, _, results_none rfl _ _ _, rfl, rfl, blk_drew q2c, blk_drew q3c, qt⟩
end Go.Proofs.YticndoihkfbpoaaGreatDoor
