/- Proved: for every list of tokens and every text of bulk at most 1048576, Spell is what the reference spells, and what is spelled scans as what was scanned, but for places. Conditions: the bulk; the listed variables of strconv and math/bits are tied to the program's text. -/
import Derived.Test.YtffeikfffmonkaaDoorScanSpells
import Derived.Test.YtffeikfffmonkaaDoorScanOpen
import Derived.Test.YtffeikfffmonkaaDoorScanRow
import Derived.Test.YtffeikfffmonkaaDoorCards
import Derived.Deep.DeepHandedRow
import Derived.SizedLaws
namespace Go.Proofs.YtffeikfffmonkaaDoor
open Go Go.ChangeShapes Go.WideShapes Go.ChangeAt Go.RowKit Go.Proofs.YtffeikfffmonkaaDoorW.PrintWords PScan
open Go.ChangeMaps (open_string shut_string)
set_option linter.unusedVariables false
set_option maxRecDepth 100000

theorem laidOut : laidOutB Tryd.prog = true := by kernel_rfl
theorem spell_sum : ∀ l : List S32, (spellL l).length ≤ textSum l
  | [] => by simp [spellL, Lib.join, List.intercalate]
  | [z] => by simp [spellL, Lib.join, List.intercalate, textSum]
  | z :: y :: l => by
    have ih := spell_sum (y :: l)
    have e : spellL (z :: y :: l) = z.f1.data.toList ++ 32 :: spellL (y :: l) := by
      unfold spellL
      rw [List.map_cons, List.map_cons, join_two _ _ (by simp)]
    rw [e, List.length_append, List.length_cons, data_length]
    simp only [textSum] at ih ⊢
    omega
theorem sum_len : ∀ l : List S32, l.length ≤ textSum l
  | [] => Nat.le_refl _
  | z :: l => by have := sum_len l; simp only [textSum, List.length_cons]; omega

theorem spells_witness (os : Os) {H : Type} (enc : TypeId × Value → H) :
    (Rows.OpenSpec.upto Rows.scanSpellsSpec).preRow enc Tryd.prog Tryd.f8 Rows.scanSpellsUptoRow.domain false laidAll ((World.laidAll Tryd.prog os laidAll).forCall (fun _ _ => 0) ⟨#[], #[.slice none 0 0, .string ⟨#[]⟩], []⟩).memory #[.slice none 0 0, .string ⟨#[]⟩] := by
  have hw : (DataW.whole enc Tryd.prog ((World.laidAll Tryd.prog os laidAll).forCall (fun _ _ => 0) ⟨#[], #[.slice none 0 0, .string ⟨#[]⟩], []⟩).memory Tryd.f8.params.toList (Rows.OpenSpec.upto Rows.scanSpellsSpec).vars false #[Value.slice none 0 0, Value.string ⟨#[]⟩].toList 8).map (fun x => (x.1, x.2.1)) =
      some ([.nil, .lit (.string [])], []) := by kernel_rfl
  obtain ⟨⟨x1, x2, x3⟩, hx, hx1⟩ := Option.map_eq_some_iff.1 hw
  simp only [Prod.mk.injEq] at hx1
  obtain ⟨rfl, rfl⟩ := hx1
  exact OpenSpec.preRow_of_cond 8 hx (by kernel_rfl) (fun k hk => by cases hk; rfl) (by kernel_rfl) (laidFits os _)

theorem scanSpells_lifted (os : Os) (started : os.Started) (H : Type) (enc : TypeId × Value → H) (F : Stop.Interp) :
    ReturnsInHanded {} Tryd.checked os 8 .any ((Rows.OpenSpec.upto Rows.scanSpellsSpec).preRow enc Tryd.prog Tryd.f8 Rows.scanSpellsUptoRow.domain false laidAll) (((Rows.OpenSpec.upto Rows.scanSpellsSpec).at F).post enc Tryd.prog Tryd.f8 false true false false) := by
  refine returnsInHanded_of_row (C := Tryd.checked) (s := Rows.OpenSpec.upto Rows.scanSpellsSpec) ownKnobNone started (by kernel_rfl) Tryd.func8
    (witness_row_at (enc := enc) (C := Tryd.checked) false (World.laidAll Tryd.prog os laidAll) #[.slice none 0 0, .string ⟨#[]⟩] (World.laidAll_os _ _ _) (by kernel_rfl) (by kernel_rfl) (by kernel_rfl) (spells_witness os enc)) ?_
  intro W base args ds gs before hval0 hW _ hcond0 hsz0 hL hsh _
  have hcond : Rows.uptoSmall H (ds ++ gs) = true := hcond0 _ rfl
  clear hcond0 hsz0
  have hval : ∀ (j : Nat) t v, Tryd.f8.params[j]? = some t → args[j]? = some v → Value.okWide Tryd.prog W .any base t v := hval0
  have hW' := hW
  obtain ⟨p, q, hA0, hV, rfl, _, _⟩ := hW
  have hA : DataW.TrodAll enc Tryd.prog W 0 (fun _ => true) true Tryd.f8.params.toList args.toList ds p := hA0
  rw [Tryd.params8] at hA hval
  obtain ⟨v0, v1, d0, d1, p0, p1, rfl, rfl, rfl, h0, h1⟩ := trodAll_two hA
  obtain ⟨rfl, rfl⟩ := trodVars_none hV
  obtain ⟨a0, len, cap, rfl⟩ := okWide_slice Tryd.underlying23 (hval 0 23 v0 rfl rfl)
  have h0k := h0
  obtain ⟨fuel0, hf0⟩ := h0
  obtain ⟨a1, rfl, rfl, rfl, y1⟩ := open_string Tryd.underlying9 (hval 1 9 v1 rfl rfl) h1
  obtain ⟨l, rfl, hC, hc, hsum⟩ := open_tokens hf0
  simp only [List.append_nil] at hW' hcond hsum
  have hlt : ∀ x ∈ p0, x.block < W.heap.size := by obtain ⟨m, hm⟩ := h0k; exact DataW.trod_lt m _ _ _ hm
  have hb : Rows.uptoBulk d0 ≤ 1048576 := by
    have := of_decide_eq_true hcond
    simp only [Rows.uptoBulkAll] at this
    omega
  have hs1 := spell_sum l
  have hs2 := sum_len l
  obtain ⟨k, hk⟩ := pureSpells l a1 (by omega) (by omega)
  clear hA0 hval0
  refine (pendulelaw01_ScanSpells.calls k a0 cap l a1 true W hC hc hk (laid_of_met hL)).mono fun e W' ⟨he, bel⟩ => ?_
  subst he
  exact ⟨_, rfl, _, _, _, [], _, [], hW', trodAll_mk1 (shut_bool Tryd.underlying4 _), (trodAll_mk2 (Below.trod laidOut (by kernel_rfl) (of_decide_eq_true (by kernel_rfl)) h0k bel hlt) (shut_string Tryd.underlying9 y1)), rfl, bel.frame _, fun h => by cases h⟩

theorem scanSpells_said : Rows.ScanSpellsUptoSaid :=
  OpenClaim.holds_of_cond 8 Tryd.f8 rfl rfl rfl rfl rfl rfl rfl ⟨rfl, rfl, rfl, rfl, rfl⟩ rfl rfl rfl rfl rfl (by kernel_rfl) Tryd.func8 (by kernel_rfl)
    (of_decide_eq_true (by kernel_rfl)) (by unfold Func.isWrapper; first | (rw [if_pos (by decide +kernel)]; kernel_rfl) | (rw [if_neg (by decide +kernel)]; exact ⟨rfl, rfl⟩))
    (fun os started H enc _ F0 => by rw [OpenClaim.pre_eq_preRow]; exact scanSpells_lifted os started H enc F0)

theorem scanSpells_card : Rows.ScanSpellsUptoCardSaid :=
  Claim7.holds_tied_plain_at .later [] [.data, .data, .data, .sentinel, .sentinel] true Rows.scanSpellsUptoCard.stood.harness true scanSpells_said (fun _ h => by cases h) (by kernel_rfl) (fun _ h => by cases h) scanSpellsUpto_row_tie rfl ⟨rfl, rfl⟩ (by kernel_rfl) rfl
    (fun f fn hf hfn => by
      obtain rfl : f = 8 := Option.some.inj ((show Tryd.prog.funcNamed "pendule/pendulelaw01.ScanSpells" = some 8 by kernel_rfl).symm.trans hf) |>.symm
      obtain rfl : fn = Tryd.f8 := (Option.some.inj (Tryd.func8.symm.trans hfn)).symm
      exact ⟨by kernel_rfl, fun j t ht => by
        rw [Tryd.params8] at ht
        have hm : t ∈ [23, 9] := by have := Array.mem_of_getElem? ht; simpa using this
        have hall : ([23, 9].all fun u => !Tryd.prog.wantsStandIn u) = true := by kernel_rfl
        exact (show Tryd.prog.wantsStandIn t = false by simpa using List.all_eq_true.1 hall t hm)⟩)
    (by kernel_rfl)
#print axioms scanSpells_card
end Go.Proofs.YtffeikfffmonkaaDoor
