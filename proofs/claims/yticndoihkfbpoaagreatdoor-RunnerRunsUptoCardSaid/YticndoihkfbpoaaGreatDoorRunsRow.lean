/- Proved: for every flat program and every script of bulk at most 1048576, the runner does, instant by instant, what the reference's runner does: answers, traps, how many statements count, how many cells are defined: RunnerRuns answers true, and its input reads as it did. Conditions: the bulk; the listed variables of strconv, math/bits and unicode/utf8 are tied to the program's text. -/
import Derived.Test.YticndoihkfbpoaaGreatDoorYu
import Derived.Test.YticndoihkfbpoaaGreatDoorYv
import Derived.Test.YticndoihkfbpoaaGreatDoorCards
import Derived.Deep.DeepHandedRow
namespace Go.Proofs.YticndoihkfbpoaaGreatDoor
open Go Go.ChangeShapes Go.WideShapes Go.ChangeAt Go.RowKit Go.Proofs.YticndoihkfbpoaaGreatDoorW.PrintWords
set_option linter.unusedVariables false
set_option maxRecDepth 100000
theorem laidOut : laidOutB Tryz.prog = true := by kernel_rfl
theorem runs_witness (os : Os) {H : Type} (enc : TypeId × Value → H) :
  (Rows.OpenSpec.upto Rows.runnerRunsSpec).preRow enc Tryz.prog Tryz.f5 Rows.runnerRunsUptoRow.domain false laidAll ((World.laidAll Tryz.prog os laidAll).forCall (fun _ _ => 0) ⟨#[], #[.agg #[.slice none 0 0], .slice none 0 0], []⟩).memory #[.agg #[.slice none 0 0], .slice none 0 0] := by
 have hw : (DataW.whole enc Tryz.prog ((World.laidAll Tryz.prog os laidAll).forCall (fun _ _ => 0) ⟨#[], #[.agg #[.slice none 0 0], .slice none 0 0], []⟩).memory Tryz.f5.params.toList (Rows.OpenSpec.upto Rows.runnerRunsSpec).vars false #[Value.agg #[Value.slice none 0 0], Value.slice none 0 0].toList 8).map (fun x => (x.1, x.2.1)) =
   some ([.agg [.nil], .nil], []) := by kernel_rfl
 obtain ⟨⟨x1, x2, x3⟩, hx, hx1⟩ := Option.map_eq_some_iff.1 hw
 simp only [Prod.mk.injEq] at hx1
 obtain ⟨rfl, rfl⟩ := hx1
 exact OpenSpec.preRow_of_cond 8 hx (by kernel_rfl) (fun k hk => by cases hk; rfl) (by kernel_rfl) (laidFits os _)
theorem runnerRuns_lifted (os : Os) (started : os.Started) (H : Type) (enc : TypeId × Value → H) (F : Stop.Interp) :
  ReturnsInHanded {} Tryz.checked os 5 .any ((Rows.OpenSpec.upto Rows.runnerRunsSpec).preRow enc Tryz.prog Tryz.f5 Rows.runnerRunsUptoRow.domain false laidAll) (((Rows.OpenSpec.upto Rows.runnerRunsSpec).at F).post enc Tryz.prog Tryz.f5 false true false false) := by
 refine returnsInHanded_of_row (C := Tryz.checked) (s := Rows.OpenSpec.upto Rows.runnerRunsSpec) ownKnobNone started (by kernel_rfl) Tryz.func5
  (witness_row_at (enc := enc) (C := Tryz.checked) false (World.laidAll Tryz.prog os laidAll) #[.agg #[.slice none 0 0], .slice none 0 0] (World.laidAll_os _ _ _) (by kernel_rfl) (by kernel_rfl) (by kernel_rfl) (runs_witness os enc)) ?_
 intro W base args ds gs before hval0 hW _ hcond0 hsz0 hL hsh _
 have hcond : Rows.uptoSmall H (ds ++ gs) = true := hcond0 _ rfl
 have hsz : (DataW.weightsEach Tryz.prog (Tryz.f5.params.toList ++ Rows.runnerRunsSpec.plain.varTypes Tryz.prog) (ds ++ gs)).all (· ≤ reachBytes) = true := hsz0
 clear hcond0
 have hval : ∀ (j : Nat) t v, Tryz.f5.params[j]? = some t → args[j]? = some v → Value.okWide Tryz.prog W .any base t v := hval0
 have hW' := hW
 obtain ⟨p, q, hA0, hV, rfl, hfz, hnd⟩ := hW
 have hA : DataW.TrodAll enc Tryz.prog W 0 (fun _ => true) true Tryz.f5.params.toList args.toList ds p := hA0
 rw [Tryz.params5] at hA hval hsz
 obtain ⟨v0, vs0, d0, ds0, p0, q0, hargs, rfl, rfl, h0, r0⟩ := trodAll_cons hA
 obtain ⟨v1, vs1, d1, ds1, p1, q1, rfl, rfl, rfl, h1, r1⟩ := trodAll_cons r0
 obtain ⟨rfl, rfl, rfl⟩ := trodAll_nil r1
 obtain rfl : args = #[v0, v1] := by cases args; simp_all
 obtain ⟨rfl, rfl⟩ := trodVars_none hV
 obtain ⟨cs, rfl, _⟩ := okWide_struct Tryz.underlying24 (hval 0 24 v0 rfl rfl)
 obtain ⟨B, n, cB, rfl⟩ := okWide_slice Tryz.underlying42 (hval 1 42 v1 rfl rfl)
 have k0 := h0
 have k1 := h1
 have lt0 : ∀ x ∈ p0, x.block < W.heap.size := by obtain ⟨m, hm⟩ := k0; exact DataW.trod_lt m _ _ _ hm
 have lt1 : ∀ x ∈ p1, x.block < W.heap.size := by obtain ⟨m, hm⟩ := k1; exact DataW.trod_lt m _ _ _ hm
 obtain ⟨fuel, hf⟩ := h0
 obtain ⟨A, l, c, hcs, hcap, hC, hfit, hfi⟩ := open_flat3 hf
 have hcs2 : cs = #[.slice A l.length c] := by
  have h := hcs
  simp only [Value.cells] at h
  rw [← Array.toList_inj]
  exact h
 subst hcs2
 obtain ⟨hl, hfw, hfr⟩ := hfit (List.all_eq_true.2 fun n hn => List.all_eq_true.1 hsz n (DataW.weights_mem_each (j := 0) rfl rfl n hn))
 obtain ⟨fuel1, hf1⟩ := h1
 obtain ⟨B', sc, cB', hcs1, _, hS, hsi⟩ := open_script3 hf1
 obtain ⟨rfl, rfl, rfl⟩ : B = B' ∧ n = sc.length ∧ cB = cB' := by
  have h := (List.cons.inj hcs1).1
  injection h with h1 h2 h3
  exact ⟨h1, h2, h3⟩
 have hbulk : Rows.uptoBulk d0 ≤ 1048576 := by
  have := of_decide_eq_true hcond
  simp only [List.append_nil, Rows.uptoBulkAll] at this
  omega
 have hfi2 := hfi hbulk
 clear hA0 hval0 hsz0 hsz
 refine (runnerRuns_calls l hl hfw hfr hfi2 W A c hC sc B cB hS hsi (laidR_of_met hL)).mono fun e W' ⟨he, bel⟩ => ?_
 subst he
 exact ⟨_, rfl, _, _, _, [], _, [], hW', trodAll_mk1 (shut_bool Tryz.underlying4 _), (trodAll_cons_mk (Below.trod laidOut (by kernel_rfl) (of_decide_eq_true (by kernel_rfl)) k0 bel lt0) (trodAll_cons_mk (Below.trod laidOut (by kernel_rfl) (of_decide_eq_true (by kernel_rfl)) k1 bel lt1) trodAll_mk0)), rfl, bel.frame _, fun h => by cases h⟩
theorem runnerRuns_said : Rows.RunnerRunsUptoSaid :=
 OpenClaim.holds_of_cond 5 Tryz.f5 rfl rfl rfl rfl rfl rfl rfl ⟨rfl, rfl, rfl, rfl, rfl⟩ rfl rfl rfl rfl rfl (by kernel_rfl) Tryz.func5 (by kernel_rfl)
  (of_decide_eq_true (by kernel_rfl)) (by unfold Func.isWrapper; first | (rw [if_pos (by decide +kernel)]; kernel_rfl) | (rw [if_neg (by decide +kernel)]; exact ⟨rfl, rfl⟩))
  (fun os started H enc _ F0 => by rw [OpenClaim.pre_eq_preRow]; exact runnerRuns_lifted os started H enc F0)
theorem runnerRuns_card : Rows.RunnerRunsUptoCardSaid :=
 Claim7.holds_tied_plain_at .later [] [.data, .data, .data, .data, .sentinel, .sentinel, .pinned] true Rows.runnerRunsUptoCard.stood.harness true runnerRuns_said (fun _ h => by cases h) (by kernel_rfl) (fun _ h => by cases h) runnerRunsUpto_row_tie rfl ⟨rfl, rfl⟩ (by kernel_rfl) rfl
  (fun f fn hf hfn => by
   obtain rfl : f = 5 := Option.some.inj ((show Tryz.prog.funcNamed "pendule/pendulelaw21.RunnerRuns" = some 5 by kernel_rfl).symm.trans hf) |>.symm
   obtain rfl : fn = Tryz.f5 := (Option.some.inj (Tryz.func5.symm.trans hfn)).symm
   exact ⟨by kernel_rfl, fun j t ht => by
    rw [Tryz.params5] at ht
    have hm : t ∈ [24, 42] := by have := Array.mem_of_getElem? ht; simpa using this
    have hall : ([24, 42].all fun u => !Tryz.prog.wantsStandIn u) = true := by kernel_rfl
    exact (show Tryz.prog.wantsStandIn t = false by simpa using List.all_eq_true.1 hall t hm)⟩)
  (by kernel_rfl)
#print axioms runnerRuns_card
end Go.Proofs.YticndoihkfbpoaaGreatDoor
