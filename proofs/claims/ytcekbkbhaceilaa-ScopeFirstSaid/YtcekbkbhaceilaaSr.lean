/- JOINED of 2 texts: The law ScopeFirst: its walk. Proved: for every program and every number, ScopeFirst answers true, and its input reads as it did. No condition beside the form's own. -/
import Derived.Test.YtcekbkbhaceilaaSp
import Derived.Test.YtcekbkbhaceilaaSq
import Derived.Test.YtcekbkbhaceilaaSd
import Derived.WalkKit
import Derived.ProofKit
import Derived.OpenShut
import Derived.ShutString
import Derived.ChangeOld
import Derived.Below
import Derived.SizedLaws
/- The law ScopeFirst: its walk. -/
namespace Go.Proofs.Ytcekbkbhaceilaa
open Go Go.RowKit Go.Lib Go.Proofs.YtcekbkbhaceilaaW.PrintWords Go.Proofs.Ytcekbkbhaceilaa.PScope
set_option maxRecDepth 100000
set_option linter.unusedSimpArgs false
set_option linter.unusedVariables false

theorem C_take {α : Type} {d : Kd α} {w : World} {A : Option Addr} {xs : List α} (h : d.C w A xs.length xs) (k : Nat) : d.C w A (xs.take k).length (xs.take k) := by
  refine ⟨rfl, Nat.le_trans (by rw [List.length_take]; omega) h.2.1, fun hn => ?_⟩
  have hl : (xs.take k).length ≤ xs.length := by rw [List.length_take]; omega
  obtain ⟨ad, e, hh⟩ := h.2.2 (by omega)
  refine ⟨ad, e, fun j q hj => hh j q ?_⟩
  rw [List.getElem?_take] at hj
  split at hj
  · exact hj
  · cases hj

theorem u64_nonneg (n : Int) : 0 ≤ IntKind.u64.wrap n := by
  unfold IntKind.wrap
  simp [IntKind.signed, IntKind.bits]
  first | done | omega
theorem first_k (n : Int) (l : Nat) (h : 0 < l) (hm : l ≤ 9223372036854775807) : ∃ k : Nat, 0 < k ∧ k ≤ l ∧ wrap64 (1 + wrap64 ((IntKind.u64.wrap n).tmod l)) = k := by
  have h0 := u64_nonneg n
  generalize IntKind.u64.wrap n = a at h0 ⊢
  have h1 := Int.tmod_nonneg (l : Int) h0
  have h2 := Int.tmod_lt_of_pos a (show (0 : Int) < (l : Int) by omega)
  generalize a.tmod l = r at h1 h2 ⊢
  refine ⟨(1 + r).toNat, by omega, by omega, ?_⟩
  have e1 : wrap64 r = r := by unfold wrap64; omega
  rw [e1]
  have e2 : wrap64 (1 + r) = 1 + r := by unfold wrap64; omega
  rw [e2]; omega

set_option maxHeartbeats 8000000 in
theorem scopeFirst_calls (es : List S72) (ns : List S36) (Ae An : Option Addr) (ce cn : Nat) (n : Int) (w : World) (he : k72.C w Ae es.length es) (hn : k36.C w An ns.length ns) (hcn : ns.length ≤ cn) (hr : -9223372036854775808 ≤ n ∧ n < 9223372036854775808) :
    Calls Try.prog 3 #[.agg #[.slice Ae es.length ce, .slice An ns.length cn], .int .i64 n] w fun e w' => e = .returned (.bool true) ∧ Below w.heap.size w w' := by
  have HE := Aside0.mk he; have HN := Aside0.mk hn; have HB := Aside0.mk (Below.refl w.heap.size w)
  have hmx := hn.2.1
  have hli := fun W => lives_calls W
  have hck := fun (W : World) (hB : Below w.heap.size w W) => check_calls true es ns Ae An ce cn W (Kd.C_below he hB) (Kd.C_below hn hB)
  have hck2 := fun (W : World) (k : Nat) (hB : Below w.heap.size w W) => check_calls true es (ns.take k) Ae An ce cn W (Kd.C_below he hB) (Kd.C_below (C_take hn k) hB)
  have HLAW := Aside0.mk (fun h k hk => first_law (made := true) (es := es) (ns := ns) h k hk)
  have HNE := Aside0.mk (checkR_nonempty (made := true) (es := es) (ns := ns))
  clear he hn
  generalize checkR true es ns = C at hck HLAW HNE
  obtain ⟨c1, c2, c3⟩ := C
  simp only at hck
  have hu1 := Try.underlying25
  have hu2 := Try.underlying29
  have hu3 := Try.underlying27
  have hfd : ∀ (W : World) (a b c : Int), (Instr.field 29 (.agg #[.int .i64 a, .int .i64 b, .int .i64 c]) 0).run Try.prog W = .ok (.int .i64 a) W := fun _ _ _ _ => by kernel_rfl
  go_enter Try.func3, Try.ntmps3
  go_wp2_with ((with_reducible refine gate_dst (N := 2) rfl ?_); refine box_event ?hg (N := 2) ?hd (cs := #[.slice Ae es.length ce, .slice An ns.length cn]) (t := 25) ?hr ?_; (case hd => rfl); (case hg => rfl); (case hr => first | (go_simp; done) | (go_simp; rfl)); intro g2 hg_ w_ hbox hb; have B2 := Aside0.mk hbox; have LB2 := Aside0.mk ((by rw [hg_]; exact below_size HB.out) : w.heap.size ≤ g2); replace HB := Aside0.mk (below_step HB.out hb); clear hb hbox hg_; have c2_0 := (blk_cell B2.out 0).trans rfl; have c2_1 := (blk_cell B2.out 1).trans rfl)
  refine (hli _).mono ?_
  rintro e w3 ⟨rfl, hb⟩
  replace B2 := Aside0.mk (below_blk B2.out hb)
  replace HB := Aside0.mk (below_step HB.out hb)
  clear hb hli c2_0 c2_1
  have c2_0 := (blk_cell B2.out 0).trans rfl
  have c2_1 := (blk_cell B2.out 1).trans rfl
  go_wp2_with fail
  refine (hck _ HB.out).mono ?_
  rintro e w4 ⟨rfl, hb⟩
  replace B2 := Aside0.mk (below_blk B2.out hb)
  replace HB := Aside0.mk (below_step HB.out hb)
  clear hb hck c2_0 c2_1
  have c2_0 := (blk_cell B2.out 0).trans rfl
  have c2_1 := (blk_cell B2.out 1).trans rfl
  by_cases e0 : c1 ≠ 0
  · have t0 : (c1 != 0) = true := by rw [bne, beq_eq_false_iff_ne.2 e0]; rfl
    clear e0 HLAW HNE
    go_wp2_with fail
    go_ret
    exact ⟨rfl, HB.out⟩
  obtain rfl : c1 = 0 := by omega
  have hpos := HNE.out rfl
  have HL2 := Aside0.mk (show ∀ k, 0 < k → checkR true es (ns.take k) = (0, 0, 0) from fun k hk => HLAW.out rfl k hk)
  clear HLAW HNE
  have t1 : ((ns.length : Int) == 0) = false := beq_eq_false_iff_ne.2 (by omega)
  go_upto_region 8 with (fail)
  obtain ⟨k, hk0, hk1, hk⟩ := first_k n ns.length hpos hmx
  generalize wrap64 (1 + wrap64 ((IntKind.u64.wrap n).tmod ns.length)) = K at hk ⊢
  subst hk
  generalize wrap64 ((IntKind.u64.wrap n).tmod ns.length) = K1
  generalize (IntKind.u64.wrap n).tmod ns.length = K2
  have hc2 : ∀ W, Below w.heap.size w W → Calls Try.prog 8 #[.agg #[.slice Ae es.length ce, .slice An k cn], .bool true] W fun e w' => e = .returned (.agg #[.int .i64 0, .int .i64 0, .int .i64 0]) ∧ Below W.heap.size W w' := fun W hB => by have h := hck2 W k hB; rw [HL2.out k hk0, show (ns.take k).length = k by rw [List.length_take]; omega] at h; exact h
  clear hck2 HL2
  have hkz : (0 : Int) ≤ (k : Int) := by omega
  have hkc : (k : Int) ≤ (cn : Int) := by omega
  go_region_with (refine (hc2 _ (below_drew1 HB.out)).mono ?_; rintro e w9 ⟨rfl, hb⟩; have HB9 := Aside0.mk (below_step (below_drew1 HB.out) hb); clear hb)
  all_goals
    go_wp2_with fail
    go_ret
    exact ⟨rfl, HB9.out⟩

end Go.Proofs.Ytcekbkbhaceilaa
/- Proved: for every program and every number, ScopeFirst answers true, and its input reads as it did. No condition beside the form's own. -/
namespace Go.Proofs.Ytcekbkbhaceilaa
open Go Go.ChangeShapes Go.WideShapes Go.ChangeAt Go.RowKit
open Go.ChangeMaps (open_string shut_string)
set_option linter.unusedVariables false
set_option maxRecDepth 100000
theorem ownKnobNone : ownKnob Try.prog.godebug = none := by kernel_rfl
theorem laidOut : laidOutB Try.prog = true := by kernel_rfl

theorem scopeFirst_lifted (os : Os) (started : os.Started) (H : Type) (enc : TypeId × Value → H) :
    ReturnsInHanded {} Try.checked os 3 .any (Rows.scopeFirstSpec.pre6 enc Try.prog Try.f3 Rows.scopeFirstRow.domain false) (Rows.scopeFirstSpec.post enc Try.prog Try.f3 false true false false) := by
  refine returnsInHanded_of_change_sized (C := Try.checked) ownKnobNone started (by kernel_rfl) Try.func3
    (ChangeSpec.witness6 (enc := enc) (C := Try.checked) false ⟨#[], #[.agg #[.slice none 0 0, .slice none 0 0], .int .i64 0], []⟩ 8 (by kernel_rfl) (by kernel_rfl) (by kernel_rfl) (by kernel_rfl)) ?_
  intro W base args ds gs before hval0 hW hcnd hsz0 _
  have hval : ∀ (j : Nat) t v, Try.f3.params[j]? = some t → args[j]? = some v → Value.okWide Try.prog W .any base t v := hval0
  have hW' := hW
  obtain ⟨p, q, hA0, hV, rfl, hfz, hnd⟩ := hW
  have hA : DataW.TrodAll enc Try.prog W 0 (fun _ => true) true Try.f3.params.toList args.toList ds p := hA0
  rw [Try.params3] at hA hval
  obtain ⟨v0, vs0, d0, ds0, p0, q0, hargs, rfl, rfl, h0, r0⟩ := trodAll_cons hA
  obtain ⟨v1, vs1, d1, ds1, p1, q1, rfl, rfl, rfl, h1, r1⟩ := trodAll_cons r0
  obtain ⟨rfl, rfl, rfl⟩ := trodAll_nil r1
  obtain rfl : args = #[v0, v1] := by cases args; simp_all
  obtain ⟨rfl, rfl⟩ := trodVars_none hV
  obtain ⟨cs, rfl, _⟩ := okWide_struct Try.underlying25 (hval 0 25 v0 rfl rfl)
  have k0 := h0
  have lt0 : ∀ x ∈ p0, x.block < W.heap.size := by obtain ⟨m, hm⟩ := k0; exact DataW.trod_lt m _ _ _ hm
  obtain ⟨fuel, hf⟩ := h0
  obtain ⟨a1, rfl, rfl, rfl, w1⟩ := open_int Try.underlying3 (hval 1 3 v1 rfl rfl) h1
  obtain ⟨Ae, An, es, ns, ce, cn, hcs, hce, hcn, hE, hN, _⟩ := open_program hf
  have hcs2 : cs = #[.slice Ae es.length ce, .slice An ns.length cn] := by
    have h := hcs
    simp only [Value.cells] at h
    rw [← Array.toList_inj]
    exact h
  subst hcs2
  clear hA0 hval0 hsz0
  have hr : -9223372036854775808 ≤ a1 ∧ a1 < 9223372036854775808 := by
    have h := w1
    have e1 : IntKind.i64.min = -9223372036854775808 := by decide
    have e2 : IntKind.i64.max = 9223372036854775807 := by decide
    simp [Lit.wf, e1, e2] at h
    omega
  refine (scopeFirst_calls es ns Ae An ce cn a1 W hE hN hcn hr).mono fun e W' ⟨he, bel⟩ => ?_
  subst he
  exact ⟨_, rfl, _, _, _, [], _, [], hW', trodAll_mk1 (shut_bool Try.underlying4 _), (trodAll_cons_mk (Below.trod laidOut (by kernel_rfl) (of_decide_eq_true (by kernel_rfl)) k0 bel lt0) (trodAll_cons_mk (shut_int Try.underlying3 w1) trodAll_mk0)), rfl, bel.frame _, fun h => by cases h⟩

theorem scopeFirst_said : Rows.ScopeFirstSaid :=
  OpenClaim.holds_of_wide 3 Try.f3 rfl rfl rfl rfl rfl rfl rfl ⟨rfl, rfl, rfl, rfl, rfl⟩ rfl rfl rfl rfl rfl (by kernel_rfl) Try.func3 (by kernel_rfl)
    (of_decide_eq_true (by kernel_rfl)) (by unfold Func.isWrapper; first | (rw [if_pos (by decide +kernel)]; kernel_rfl) | (rw [if_neg (by decide +kernel)]; exact ⟨rfl, rfl⟩))
    (fun os started H enc _ => scopeFirst_lifted os started H enc)
#print axioms scopeFirst_said
end Go.Proofs.Ytcekbkbhaceilaa
