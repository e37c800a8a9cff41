/- Package reread: Parse: its deferred closure, which recovers. -/
import Derived.Defers
import Derived.Recover
import Derived.Tactics2
import Derived.Laws.Pointers
import Derived.Test.YticndoihkfbpoaaGreatDoorUl
import Derived.Test.YticndoihkfbpoaaGreatDoorUp
import Derived.BigQuiet
import Derived.Test.YticndoihkfbpoaaGreatDoorXi
namespace Go.Proofs.YticndoihkfbpoaaGreatDoor
open Go Go.RowKit Go.Lib Go.Proofs.YticndoihkfbpoaaGreatDoorW.PrintWords Go.Proofs.YticndoihkfbpoaaGreatDoor.PScope
set_option maxRecDepth 100000
set_option linter.unusedSimpArgs false
set_option linter.unusedVariables false

theorem wpS_of_wpQ {P : Program} {c : Code} {Q0 : Exit → Act → List Frame → World → Prop} {a : Act} {cs : List Frame} {w : World} (h : ∀ Q : Exit → Act → World → Prop, (∀ e a' w', Q0 e a' cs w' → Q e a' w') → c.wp P Q a w) : c.wpS P Q0 a cs w := wpS_of_wp (h _ (fun _ _ _ h => h))
theorem run_assert_fault (f : Flt) (w : World) : (Instr.typeAssert (fltV f) 20 61 true).run Tryz.prog w = .ok (.tuple #[.agg #[.int .i64 f.1, .int .i64 (f.2 : Int), .int .i64 0], .bool true]) w := by
  simp [Instr.typeAssert, run_underlying Tryz.underlying61, go_sem, Result.andThen]
theorem parse1_idle (b2 b3 : Nat) (w : World) :
    CallsD Tryz.prog 54 #[.pointer (some ⟨b2, 0, none⟩), .pointer (some ⟨b3, 0, none⟩)] .returning w fun e u' w' => e = .returned (.tuple #[]) ∧ u' = .returning ∧ w' = w := by
  refine callsD_of_wpS Tryz.func54 rfl fun c₀ cs hu => ?_
  simp only [Tryz.ntmps54, List.size_toArray, List.length_cons, List.length_nil, Nat.reduceAdd, Nat.reduceSub, Array.replicate_succ, Array.replicate_zero, List.push_toArray, List.append_toArray, List.nil_append, List.cons_append]
  apply wpS_seq
  apply wpS_region
  simp [wpOpsS, go_sem, recoverD, hu, Tryz.ntmps54, Exit.thenS]
  refine wpS_of_wpQ fun Q hQ => ?_
  have HQ := Aside0.mk hQ
  clear hQ
  go_wp2_with fail
  refine HQ.out _ _ _ ?_
  cases c₀
  simp_all [bodyPostS, results, Tryz.results54]
set_option maxHeartbeats 1000000 in
theorem parse1_panicking (f : Flt) (older : List PanicEntry) (b2 b3 : Nat) (v : Value) (c0 c1 c2 : Value) (hne : b2 ≠ b3) (w : World) (h2 : w.heap[b2]? = some (.cells #[v] 24 (0, 0))) (h3 : w.heap[b3]? = some (.cells #[c0, c1, c2] 61 (0, 0))) :
    CallsD Tryz.prog 54 #[.pointer (some ⟨b2, 0, none⟩), .pointer (some ⟨b3, 0, none⟩)] (.panicking ({ v := fltV f, recovered := false } :: older)) w fun e u' w' =>
      e = .returned (.tuple #[]) ∧ u' = .panicking ({ v := fltV f, recovered := true } :: older) ∧ w'.heap[b2]? = some (.cells #[.slice none 0 0] 24 (0, 0)) ∧ w'.heap[b3]? = some (.cells #[.int .i64 f.1, .int .i64 (f.2 : Int), .int .i64 0] 61 (0, 0)) ∧ Turned (fun k => k = b2 ∨ k = b3) w w' := by
  refine callsD_of_wpS Tryz.func54 rfl fun c₀ cs hu => ?_
  simp only [Tryz.ntmps54, List.size_toArray, List.length_cons, List.length_nil, Nat.reduceAdd, Nat.reduceSub, Array.replicate_succ, Array.replicate_zero, List.push_toArray, List.append_toArray, List.nil_append, List.cons_append]
  apply wpS_seq
  apply wpS_region
  simp [wpOpsS, go_sem, recoverD, hu, Tryz.ntmps54, Exit.thenS]
  refine wpS_of_wpQ fun Q hQ => ?_
  have HQ := Aside0.mk hQ
  clear hQ
  have H2 := Aside0.mk h2
  have H3 := Aside0.mk h3
  have LT2 := Aside0.mk (blk_lt h2)
  clear h2 h3
  have hta := run_assert_fault f
  go_upto_region 5 with ((with_reducible refine gate_store (t := 61) (p := 3) rfl ?_); refine store_whole rfl rfl 61 _ _ rfl w.heap.size _ 61 rfl (blk_new _ _) _ rfl rfl rfl (by simp [Value.oneCell']) ?_; intro w2 hb2 hg2; have HT := Aside0.mk (turned_as (Turned.refl (fun k => k = b2 ∨ k = b3) w) hg2); replace H2 := Aside0.mk (blk_as H2.out hg2); replace H3 := Aside0.mk (blk_as H3.out hg2); have e0 := (blk_cell hb2 0).trans rfl; have e1 := (blk_cell hb2 1).trans rfl; have e2 := (blk_cell hb2 2).trans rfl; have BN := Aside0.mk hb2; clear hb2 hg2)
  have d2 := (blk_cell H2.out 0).trans rfl
  have f2 := blk_frozen H2.out 0
  have d3 := (blk_cell H3.out 0).trans rfl
  have d4 := (blk_cell H3.out 1).trans rfl
  have d5 := (blk_cell H3.out 2).trans rfl
  have f3 := blk_frozen H3.out 0
  have f4 := blk_frozen H3.out 1
  have f5 := blk_frozen H3.out 2
  have hn2 : w.heap.size ≠ b2 := by have := LT2.out; omega
  have g0 := fun (u : Value) => (blk_cell (blk_far (p := ⟨b2, 0, none⟩) BN.out hn2 u) 0).trans rfl
  have g1 := fun (u : Value) => (blk_cell (blk_far (p := ⟨b2, 0, none⟩) BN.out hn2 u) 1).trans rfl
  have g2 := fun (u : Value) => (blk_cell (blk_far (p := ⟨b2, 0, none⟩) BN.out hn2 u) 2).trans rfl
  have k0 := fun (u : Value) => (blk_cell (blk_far (p := ⟨b2, 0, none⟩) (blk_drew BN.out) hn2 u) 0).trans rfl
  have k1 := fun (u : Value) => (blk_cell (blk_far (p := ⟨b2, 0, none⟩) (blk_drew BN.out) hn2 u) 1).trans rfl
  have k2 := fun (u : Value) => (blk_cell (blk_far (p := ⟨b2, 0, none⟩) (blk_drew BN.out) hn2 u) 2).trans rfl
  have hne1 := hne
  have hne2 : b3 ≠ b2 := fun e => hne e.symm
  clear hn2
  go_region
  have q2 := blk_put (cs := #[v]) H2.out 0 (.slice none 0 0) rfl
  have q2a := blk_far (p := ⟨b3, 0, none⟩) q2 hne (.int .i64 f.1)
  have q2b := blk_far (p := ⟨b3, 1, none⟩) q2a hne (.int .i64 (f.2 : Int))
  have q2c := blk_far (p := ⟨b3, 2, none⟩) q2b hne (.int .i64 0)
  have q3 := blk_far (p := ⟨b2, 0, none⟩) H3.out hne2 (.slice none 0 0)
  have q3a := blk_put (cs := #[c0, c1, c2]) q3 0 (.int .i64 f.1) rfl
  have q3b := blk_put (cs := #[.int .i64 f.1, c1, c2]) q3a 1 (.int .i64 (f.2 : Int)) rfl
  have q3c := blk_put (cs := #[.int .i64 f.1, .int .i64 (f.2 : Int), c2]) q3b 2 (.int .i64 0) rfl
  have qt := ((((HT.out.set (p := ⟨b2, 0, none⟩) (.inl rfl) (.slice none 0 0)).set (p := ⟨b3, 0, none⟩) (.inr rfl) (.int .i64 f.1)).set (p := ⟨b3, 1, none⟩) (.inr rfl) (.int .i64 (f.2 : Int))).set (p := ⟨b3, 2, none⟩) (.inr rfl) (.int .i64 0)).drew
  exact HQ.out _ _ _ ⟨rfl, _, rfl, _, results_none rfl _ _ _, rfl, rfl, blk_drew q2c, blk_drew q3c, qt⟩
end Go.Proofs.YticndoihkfbpoaaGreatDoor
namespace Go.Proofs.YticndoihkfbpoaaGreatDoor
open Go Go.RowKit Go.Lib Go.Proofs.YticndoihkfbpoaaGreatDoorW.PrintWords Go.Proofs.YticndoihkfbpoaaGreatDoor.PScope
set_option maxRecDepth 100000
set_option linter.unusedSimpArgs false
set_option linter.unusedVariables false
attribute [local irreducible] wpStill

/-- What a trap is, as a value. -/
abbrev trapV : Value := .iface 85 (.agg #[])
theorem run_assert_trap (w : World) : (Instr.typeAssert trapV 20 85 true).run Tryz.prog w = .ok (.tuple #[.agg #[], .bool true]) w := by
  simp [Instr.typeAssert, run_underlying Tryz.underlying85, go_sem, Result.andThen]
theorem run_loadVar_one {P : Program} (w : World) (g : Nat) (t ty : TypeId) (v : Value) (fr : Nat × Nat) (d : TypeDesc) (hg : w.heap[g]? = some (.cells #[v] t fr)) (hu : P.underlying ty = some d) (hd : (match d with | .struct _ | .array _ _ => true | _ => false) = false) :
    (loadVar ty ⟨g, 0, none⟩).run P w = .ok v w := by
  have hc : w.cell? ⟨g, 0, none⟩ = some v := by unfold World.cell?; rw [hg]; rfl
  have hl : (load ⟨g, 0, none⟩).run P w = .ok v w := by simp [hc, go_sem]
  unfold loadVar isAgg
  cases d <;> simp_all [run_underlying hu, Result.andThen]
theorem results_pp {P : Program} {fn : Func} {p p' : Tmp} {ty ty' : TypeId} (h : fn.results = #[.cell p ty, .cell p' ty']) (tmps : Array Value) (w : World) (g g' : Nat) (t t' : TypeId) (v v' : Value) (fr fr' : Nat × Nat) (d d' : TypeDesc)
    (hp : tmps.getD p undef = .pointer (some ⟨g, 0, none⟩)) (hg : w.heap[g]? = some (.cells #[v] t fr)) (hu : P.underlying ty = some d) (hd : (match d with | .struct _ | .array _ _ => true | _ => false) = false)
    (hp' : tmps.getD p' undef = .pointer (some ⟨g', 0, none⟩)) (hg' : w.heap[g']? = some (.cells #[v'] t' fr')) (hu' : P.underlying ty' = some d') (hd' : (match d' with | .struct _ | .array _ _ => true | _ => false) = false) :
    (results fn tmps).run P w = .ok (.tuple #[v, v']) w := by
  have h1 : tmps[p]?.getD undef = .pointer (some ⟨g, 0, none⟩) := by simpa using hp
  have h2 : tmps[p']?.getD undef = .pointer (some ⟨g', 0, none⟩) := by simpa using hp'
  simp [results, h, h1, h2, asAddr, run_loadVar_one w g t ty v fr d hg hu hd, run_loadVar_one w g' t' ty' v' fr' d' hg' hu' hd']
theorem step1_idle (b2 b4 b5 : Nat) (w : World) :
    CallsD Tryz.prog 51 #[.pointer (some ⟨b2, 0, none⟩), .pointer (some ⟨b4, 0, none⟩), .pointer (some ⟨b5, 0, none⟩)] .returning w fun e u' w' => e = .returned (.tuple #[]) ∧ u' = .returning ∧ w' = w := by
  refine callsD_of_wpS Tryz.func51 rfl fun c₀ cs hu => ?_
  simp only [Tryz.ntmps51, List.size_toArray, List.length_cons, List.length_nil, Nat.reduceAdd, Nat.reduceSub, Array.replicate_succ, Array.replicate_zero, List.push_toArray, List.append_toArray, List.nil_append, List.cons_append]
  apply wpS_seq
  apply wpS_region
  simp [wpOpsS, go_sem, recoverD, hu, Tryz.ntmps51, Exit.thenS]
  refine wpS_of_wpQ fun Q hQ => ?_
  have HQ := Aside0.mk hQ
  clear hQ
  go_wp2_with fail
  refine HQ.out _ _ _ ?_
  cases c₀
  simp_all [bodyPostS, results, Tryz.results51]
section
variable {w0 w w' : World} {g : Nat} {ma : Addr} {A : Option Addr} {c : Nat} {l : List FF} {N : Nat} {m : List Cl} {tr : Bool} {cn : Int}
theorem RAt.trap (h : RAt w0 w g ma A c l N m tr cn) (t : Bool) : RAt w0 (w.setCell ⟨g, 2, none⟩ (.bool t)) g ma A c l N m t cn :=
  ⟨blk_put h.blk 2 (.bool t) rfl, ⟨h.mem.1, blk_far h.mem.2 (p := ⟨g, 2, none⟩) (fun e => h.ne e.symm) _⟩, h.len, h.few, h.hg, h.hb, h.ne, below_set h.below h.hg⟩
theorem RAt.countS (h : RAt w0 w g ma A c l N m tr cn) (v : Int) : RAt w0 (w.setCell ⟨g, 3, none⟩ (.int .i64 v)) g ma A c l N m tr v :=
  ⟨blk_put h.blk 3 (.int .i64 v) rfl, ⟨h.mem.1, blk_far h.mem.2 (p := ⟨g, 3, none⟩) (fun e => h.ne e.symm) _⟩, h.len, h.few, h.hg, h.hb, h.ne, below_set h.below h.hg⟩
theorem RAt.farS (h : RAt w0 w g ma A c l N m tr cn) {b j : Nat} (h1 : g ≠ b) (h2 : ma.block ≠ b) (h3 : w0.heap.size ≤ b) (u : Value) : RAt w0 (w.setCell ⟨b, j, none⟩ u) g ma A c l N m tr cn :=
  ⟨blk_far h.blk (p := ⟨b, j, none⟩) h1 _, ⟨h.mem.1, blk_far h.mem.2 (p := ⟨b, j, none⟩) h2 _⟩, h.len, h.few, h.hg, h.hb, h.ne, below_set h.below h3⟩
set_option maxHeartbeats 1000000 in
theorem step1_panicking (older : List PanicEntry) (b2 b4 b5 : Nat) (v4 v5 : Value) (hR : RAt w0 w g ma A c l N m tr cn) (h2 : w.heap[b2]? = some (.cells #[.pointer (some ⟨g, 0, none⟩)] 43 (0, 0))) (h4 : w.heap[b4]? = some (.cells #[v4] 49 (0, 0))) (h5 : w.heap[b5]? = some (.cells #[v5] 26 (0, 0)))
    (n1 : b4 ≠ b5) (n2 : g ≠ b4) (n3 : g ≠ b5) (n4 : ma.block ≠ b4) (n5 : ma.block ≠ b5) (n6 : w0.heap.size ≤ b4) (n7 : w0.heap.size ≤ b5) :
    CallsD Tryz.prog 51 #[.pointer (some ⟨b2, 0, none⟩), .pointer (some ⟨b4, 0, none⟩), .pointer (some ⟨b5, 0, none⟩)] (.panicking ({ v := trapV, recovered := false } :: older)) w fun e u' w' =>
      e = .returned (.tuple #[]) ∧ u' = .panicking ({ v := trapV, recovered := true } :: older) ∧ RAt w0 w' g ma A c l N m true cn ∧ w'.heap[b4]? = some (.cells #[.slice none 0 0] 49 (0, 0)) ∧ w'.heap[b5]? = some (.cells #[.int .i64 12] 26 (0, 0)) ∧ Turned (fun k => k = g ∨ k = b4 ∨ k = b5) w w' := by
  refine callsD_of_wpS Tryz.func51 rfl fun c₀ cs hu => ?_
  simp only [Tryz.ntmps51, List.size_toArray, List.length_cons, List.length_nil, Nat.reduceAdd, Nat.reduceSub, Array.replicate_succ, Array.replicate_zero, List.push_toArray, List.append_toArray, List.nil_append, List.cons_append]
  apply wpS_seq
  apply wpS_region
  simp [wpOpsS, go_sem, recoverD, hu, Tryz.ntmps51, Exit.thenS]
  refine wpS_of_wpQ fun Q hQ => ?_
  have HQ := Aside0.mk hQ
  clear hQ
  have HR := Aside0.mk hR
  have B2 := Aside0.mk h2
  have B4 := Aside0.mk h4
  have B5 := Aside0.mk h5
  clear h2 h4 h5 hR
  have hta := run_assert_trap
  have HT := Aside0.mk (Turned.of_below (S := fun k => k = g ∨ k = b4 ∨ k = b5) (below_alloc (Below.refl w.heap.size w) (.cells #[] 85 (0, 0))))
  have HR1 := Aside0.mk (HR.out.below' (below_alloc (Below.refl w.heap.size w) (.cells #[] 85 (0, 0))))
  have A2 := Aside0.mk (blk_alloc B2.out (.cells #[] 85 (0, 0)))
  have A4 := Aside0.mk (blk_alloc B4.out (.cells #[] 85 (0, 0)))
  have A5 := Aside0.mk (blk_alloc B5.out (.cells #[] 85 (0, 0)))
  clear HR B2 B4 B5
  have A4' := Aside0.mk (blk_far (p := ⟨g, 2, none⟩) A4.out (fun e => n2 e.symm) (.bool true))
  have A5' := Aside0.mk (blk_far (p := ⟨g, 2, none⟩) A5.out (fun e => n3 e.symm) (.bool true))
  have A5'' := Aside0.mk (blk_far (p := ⟨b4, 0, none⟩) A5'.out (fun e => n1 e.symm) (.slice none 0 0))
  have d2 := (blk_cell A2.out 0).trans rfl
  have y2 := (blk_cell HR1.out.blk 2).trans rfl
  have f2 := blk_frozen HR1.out.blk 2
  have d4 := (blk_cell A4'.out 0).trans rfl
  have f4 := blk_frozen A4'.out 0
  have d5 := (blk_cell A5''.out 0).trans rfl
  have f5 := blk_frozen A5''.out 0
  have HRE := Aside0.mk (((HR1.out.trap true).farS (j := 0) n2 n4 n6 (.slice none 0 0)).farS (j := 0) n3 n5 n7 (.int .i64 12))
  have HTE := Aside0.mk (((HT.out.set (p := ⟨g, 2, none⟩) (.inl rfl) (.bool true)).set (p := ⟨b4, 0, none⟩) (.inr (.inl rfl)) (.slice none 0 0)).set (p := ⟨b5, 0, none⟩) (.inr (.inr rfl)) (.int .i64 12))
  have B4E := Aside0.mk (blk_far (p := ⟨b5, 0, none⟩) (blk_put (cs := #[v4]) A4'.out 0 (.slice none 0 0) rfl) n1 (.int .i64 12))
  have B5E := Aside0.mk (blk_put (cs := #[v5]) A5''.out 0 (.int .i64 12) rfl)
  clear n1 n2 n3 n4 n5 n6 n7
  go_wp2_with fail
  exact HQ.out _ _ _ ⟨rfl, _, rfl, _, results_none rfl _ _ _, rfl, rfl, HRE.out, B4E.out, B5E.out, HTE.out⟩
end
end Go.Proofs.YticndoihkfbpoaaGreatDoor
