/- The law's lives: a sum's first instants; and RunnerNil. -/
import Derived.Test.YticndoihkfbpoaaGreatDoorXl
import Derived.Deep.CutRange
namespace Go.Proofs.YticndoihkfbpoaaGreatDoor
open Go Go.RowKit Go.Lib Go.Proofs.YticndoihkfbpoaaGreatDoorW.PrintWords Go.Proofs.YticndoihkfbpoaaGreatDoor.PScope
set_option maxRecDepth 100000
set_option linter.unusedSimpArgs false
set_option linter.unusedVariables false
attribute [local irreducible] wpStill

/-- A row of one number. -/
theorem lit_row {W : World} {b : Nat} {x : Int} {T : TypeId} (h : W.heap[b]? = some (.cells #[.int .i64 x] T (0, 0))) : (Kd.int .i64).C W (some ⟨b, 0, none⟩) 1 [x] := by
  refine ⟨rfl, by decide, fun _ => ⟨⟨b, 0, none⟩, rfl, fun j p hj => ?_⟩⟩
  cases j with
  | succ j => simp at hj
  | zero =>
    simp at hj
    subst hj
    refine ⟨[.int .i64 x], rfl, rfl, fun i u hu => ?_⟩
    cases i with
    | succ i => simp at hu
    | zero =>
      simp at hu
      subst hu
      exact (blk_cell h 0).trans rfl
/-- What one instant of a row of one number hands back. -/
theorem step_lit {w0 w : World} {g : Nat} {ma : Addr} {A : Option Addr} {c : Nat} {l : List FF} {N : Nat} {m : List Cl} {tr : Bool} {cn : Int} (hok : flatOk l = true) (hsm : FlatSmall l) (hC : kFF.C w0 A l.length l) (hfw : ∀ f ∈ l, f.params.length ≤ 8796093022208) (hfr : ∀ f ∈ l, f.results.length ≤ 8796093022208)
    (x y er : Int) (r : StepR) (hr : stepR l N m tr cn [x] = r) (hy : r.2.2.2 = ([y], er)) (T : TypeId) (h : RAt w0 w g ma A c l N m tr cn) :
    Calls Tryz.prog 25 #[.pointer (some ⟨g, 0, none⟩), .slice (some ⟨w.heap.size, 0, none⟩) 1 1] (w.alloc (.cells #[.int .i64 x] T (0, 0))) fun e w' =>
      (∃ ad cB, e = .returned (.tuple #[.slice (some ad) 1 cB, .int .i64 er]) ∧ w'.cell? ad = some (.int .i64 y) ∧ w.heap.size ≤ ad.block) ∧ RAt w0 w' g ma A c l N r.1 r.2.1 r.2.2.1 ∧ Turned (fun b => b = g ∨ b = ma.block) w w' := by
  have hb := below_alloc (Below.refl w.heap.size w) (.cells #[.int .i64 x] T (0, 0))
  have h1 := blk_lt h.blk
  have h2 := blk_lt h.mem.2
  have hn := blk_new w (.cells #[.int .i64 x] T (0, 0))
  refine (stepm_calls hok hsm hC hfw hfr [x] (some ⟨w.heap.size, 0, none⟩) 1 (fun W hW => lit_row (hW.blk hn (by rintro (e | e) <;> omega))) (h.below' hb)).mono ?_
  rintro e w' ⟨⟨B, cB, rfl, hCB, hf⟩, hR, hT⟩
  rw [hr] at hCB hR ⊢
  rw [hy] at hCB ⊢
  obtain ⟨ad, cs, rfl, _, hk, hcc⟩ := Kd.C_get hCB (0 : Int) 0 (by decide) (by show (0 : Int) < (1 : Int); decide)
  obtain rfl := hk
  refine ⟨⟨ad, cB, rfl, ?_, ?_⟩, hR, (Turned.of_below hb).trans hT⟩
  · have := hcc 0 _ rfl
    simpa [Addr.add] using this
  · exact Nat.le_trans hb.size (hf ad rfl)
theorem cell_turned {S : Nat → Prop} {w w' : World} {a : Addr} {v : Value} (h : w.cell? a = some v) (ht : Turned S w w') (hs : ¬ S a.block) : w'.cell? a = some v := (World.cell?_of_block (ht.block a.block (World.block_lt_of_cell? w _ h) hs)).trans h
theorem sum_few : (∀ f ∈ sumL, f.params.length ≤ 8796093022208) ∧ ∀ f ∈ sumL, f.results.length ≤ 8796093022208 := by
  have h := sum_params
  rw [List.all_eq_true] at h
  refine ⟨fun f hf => ?_, fun f hf => ?_⟩ <;> have := h f hf <;> simp only [Bool.and_eq_true, decide_eq_true_eq] at this <;> omega
set_option maxHeartbeats 4000000 in
theorem rlives_calls (w : World) (hL : LaidR w) : Calls Tryz.prog 20 #[] w fun e w' => e = .returned (.bool true) ∧ Below w.heap.size w w' := by
  have HL := Aside0.mk hL
  clear hL
  go_enter Tryz.func20, Tryz.ntmps20
  go_wp2_with fail
  refine (parse_sum_calls _ (by kernel_rfl) _ HL.out).mono ?_
  rintro e w1 ⟨A, c, rfl, hb, hC⟩
  have HB := Aside0.mk hb
  have HC := Aside0.mk hC
  clear hb hC HL
  go_wp2_with fail
  have HC2 := Aside0.mk (Kd.C_alloc (Kd.C_alloc HC.out (.cells #[.slice A sumL.length c] 24 (0, 0))) (.cells #[.int .i64 0, .int .i64 0, .int .i64 0] 61 (0, 0)))
  have HB2 := Aside0.mk (below_alloc (below_alloc HB.out (.cells #[.slice A sumL.length c] 24 (0, 0))) (.cells #[.int .i64 0, .int .i64 0, .int .i64 0] 61 (0, 0)))
  clear HC HB
  generalize (w1.alloc (.cells #[.slice A sumL.length c] 24 (0, 0))).alloc (.cells #[.int .i64 0, .int .i64 0, .int .i64 0] 61 (0, 0)) = w2 at HC2 HB2 ⊢
  generalize w1.heap.size = b1
  refine (new_calls sumL sum_small w2 A c HC2.out).mono ?_
  intro e w3 hp
  unfold NewPost at hp
  rcases hp with ⟨hne, _⟩ | ⟨_, g, ma, rfl, hR⟩
  · exact absurd sum_new hne
  rw [sum_N] at hR
  have H3 := Aside0.mk (show RAt w2 w3 g ma A c sumL 2 sum0 false 0 from hR)
  clear hR
  go_wp2_with fail
  refine (rcells_calls H3.out).mono ?_
  rintro e w4 ⟨rfl, rfl⟩
  go_wp2_with fail
  refine (rdefined_calls H3.out).mono ?_
  rintro e w5 ⟨rfl, hb⟩
  rw [sum_d0]
  have H5 := Aside0.mk (H3.out.below' hb)
  clear hb H3
  have HFEW := Aside0.mk sum_few
  have HSM := Aside0.mk sum_small
  have HB5 := Aside0.mk (HB2.out.trans (H5.out.below.mono HB2.out.size))
  go_wp2_with fail
  refine (step_lit sum_ok HSM.out HC2.out HFEW.out.1 HFEW.out.2 1 0 0 sum1 rfl sum_1 _ H5.out).mono ?_
  rintro e w6 ⟨⟨a1, c1, rfl, ha1, hg1⟩, hR6, ht6⟩
  have H6 := Aside0.mk hR6
  have LT := Aside0.mk (show g < w5.heap.size ∧ ma.block < w5.heap.size from ⟨blk_lt H5.out.blk, blk_lt H5.out.mem.2⟩)
  have HA1 := Aside0.mk ha1
  have N1 := Aside0.mk (show ¬ (a1.block = g ∨ a1.block = ma.block) by have := LT.out; omega)
  have S6 := Aside0.mk ht6.size
  clear ha1 hg1 hR6 ht6
  go_wp2_with fail
  refine (step_lit sum_ok HSM.out HC2.out HFEW.out.1 HFEW.out.2 2 1 0 sum2 rfl sum_2 _ H6.out).mono ?_
  rintro e w7 ⟨⟨a2, c2, rfl, ha2, hg2⟩, hR7, ht7⟩
  have H7 := Aside0.mk hR7
  have HA2 := Aside0.mk ha2
  replace HA1 := Aside0.mk (cell_turned HA1.out ht7 N1.out)
  have N2 := Aside0.mk (show ¬ (a2.block = g ∨ a2.block = ma.block) by have := LT.out; have := S6.out; omega)
  have S7 := Aside0.mk ht7.size
  clear ha2 hg2 hR7 ht7
  go_wp2_with fail
  refine (step_lit sum_ok HSM.out HC2.out HFEW.out.1 HFEW.out.2 3 3 0 sum3 rfl sum_3 _ H7.out).mono ?_
  rintro e w8 ⟨⟨a3, c3, rfl, ha3, hg3⟩, hR8, ht8⟩
  have H8 := Aside0.mk hR8
  replace HA1 := Aside0.mk (cell_turned HA1.out ht8 N1.out)
  replace HA2 := Aside0.mk (cell_turned HA2.out ht8 N2.out)
  have x1 := HA1.out
  have x2 := HA2.out
  have x3 := ha3
  clear ha3 hg3 hR8 ht8 HA1 HA2
  go_wp2_with fail
  refine (rcount_calls H8.out).mono ?_
  rintro e w9 ⟨rfl, rfl⟩
  rw [sum_c3]
  go_wp2_with fail
  refine (rdefined_calls H8.out).mono ?_
  rintro e w10 ⟨rfl, hb⟩
  rw [sum_d3]
  have HBE := Aside0.mk (below_step (HB2.out.trans (H8.out.below.mono HB2.out.size)) hb)
  clear hb
  go_wp2_with fail
  go_ret
  exact ⟨rfl, HBE.out⟩
end Go.Proofs.YticndoihkfbpoaaGreatDoor
namespace Go.Proofs.YticndoihkfbpoaaGreatDoor
open Go Go.RowKit Go.Lib Go.Proofs.YticndoihkfbpoaaGreatDoorW.PrintWords Go.Proofs.YticndoihkfbpoaaGreatDoor.PScope
set_option maxRecDepth 100000
set_option linter.unusedSimpArgs false
set_option linter.unusedVariables false
attribute [local irreducible] wpStill

theorem newOk {l : List FF} (h : newErr l = 0) : flatOk l = true := by
  unfold newErr at h
  cases hf : flatOk l with
  | true => rfl
  | false => rw [hf] at h; simp at h
theorem RAt.keeps {w0 w W : World} {g : Nat} {ma : Addr} {A : Option Addr} {c : Nat} {l : List FF} {N : Nat} {m : List Cl} {tr : Bool} {cn : Int} (h : RAt w0 w g ma A c l N m tr cn) (ht : Turned (fun b => b = g ∨ b = ma.block) w W) : Below w0.heap.size w0 W :=
  ht.below h.below h.below.size (fun k hk => hk.elim (fun e => e ▸ h.hg) (fun e => e ▸ h.hb))
/-- A row of a script. -/
theorem script_row {w0 w : World} {B : Option Addr} {script : List (List Int)} (hS : Kd.C (Kd.slice 2 (Kd.int .i64)) w0 B script.length script) (hb : Below w0.heap.size w0 w) (k : Nat) (hk : k < script.length) :
    ∃ ad Ai ci, B = some ad ∧ w.cell? (ad.add k) = some (.slice Ai (script.getD k []).length ci) ∧ (Kd.int .i64).C w0 Ai (script.getD k []).length (script.getD k []) := by
  obtain ⟨ad, cs, rfl, _, hK, cc⟩ := Kd.C_get hS ([] : List Int) (k : Int) (by omega) (by omega)
  rw [Int.toNat_natCast] at hK
  obtain ⟨Ai, ci, rfl, _, hC⟩ := hK
  have x0 := (hb.cell (World.block_lt_of_cell? w0 _ (cc 0 _ rfl))).trans (cc 0 _ rfl)
  refine ⟨ad, Ai, ci, rfl, ?_, hC⟩
  rw [show (Kd.slice 2 (Kd.int .i64)).sz = 1 from rfl, Nat.mul_one, Nat.add_zero, Int.toNat_natCast] at x0
  exact x0
end Go.Proofs.YticndoihkfbpoaaGreatDoor
