/- Package tree: an expression that is none; equations, states, items, nodes, programs. -/
import Derived.Test.YtggfnbnochmkdaaGreatTe
namespace Go.Proofs.YtggfnbnochmkdaaGreat
open Go Go.RowKit Go.Lib Go.Proofs.YtggfnbnochmkdaaGreatW.PrintWords Go.Proofs.YtggfnbnochmkdaaGreat.PScope
set_option maxRecDepth 100000
set_option linter.unusedSimpArgs false
set_option linter.unusedVariables false
def zeroB (x : S42) : Bool := (x.f0 == 0) && (x.f1.toList.isEmpty && ((x.f2 == 0) && (sameL x.f3 [] && (x.f4.length == 0))))
theorem eqfunc0_calls (A : Option Addr) (c n : Nat) (w : World) :
   Calls Tryz.prog 113 #[.slice A n c, .slice none 0 0, .func (.func 98) #[] #[]] w fun e w' => e = .returned (.bool (n == 0)) ∧ Below w.heap.size w w' := by
 by_cases h : n = 0
 · subst h
   go_enter Tryz.func113, Tryz.ntmps113
   go_wp2_with fail
   refine wp_loop_rounds 1 ?_
   rw [rounds_succ]
   go_wp2_with fail
   go_ret
   exact ⟨rfl, Below.refl _ _⟩
 · have h1 : ((n : Int) != 0) = true := by rw [bne_iff_ne]; omega
   have h2 : (n == 0) = false := beq_eq_false_iff_ne.2 h
   rw [h2]
   have h3 : (n != 0) = true := by rw [bne_iff_ne]; exact h
   clear h2
   go_enter Tryz.func113, Tryz.ntmps113
   go_wp2_with fail
   go_ret
   exact ⟨rfl, Below.refl _ _⟩
set_option maxHeartbeats 4000000 in
theorem same0_calls (x : S42) (csx : List Value) (w : World) (hK : k42.K w x csx) :
   Calls Tryz.prog 98 #[.agg csx.toArray, .agg #[.int .i64 0, .string ⟨#[]⟩, .int .i64 0, .slice none 0 0, .slice none 0 0]] w fun e w' => e = .returned (.bool (zeroB x)) ∧ Below w.heap.size w w' := by
 obtain ⟨A3, c3, A4, c4, rfl, l3, g3, l4, g4⟩ := k42_open hK
 have L3 := Aside0.mk l3; have G3 := Aside0.mk g3; clear l3 g3
 have L4 := Aside0.mk l4; have G4 := Aside0.mk g4; clear l4 g4
 clear hK
 have HB := Aside0.mk (Below.refl w.heap.size w)
 have hu := Tryz.underlying42
 unfold zeroB
 have hse : ∀ (W : World), Below w.heap.size w W → Calls Tryz.prog 102 #[.slice A3 x.f3.length c3, .slice none 0 0] W (fun e w' => e = .returned (.bool (sameL x.f3 [])) ∧ Below W.heap.size W w') := fun (W : World) (hB : Below w.heap.size w W) => sequal_calls A3 none c3 0 x.f3 [] W (Kd.C_below G3.out hB) ⟨rfl, by simp, fun h => absurd h (by simp)⟩
 have hef := fun (W : World) => eqfunc0_calls A4 c4 x.f4.length W
 generalize sameL x.f3 [] = b at hse ⊢
 generalize (x.f4.length == 0) = b2 at hef ⊢
 cases h0 : (x.f0 == 0) with
 | false =>
   go_enter Tryz.func98, Tryz.ntmps98
   go_wp2_with (first | ((with_reducible refine gate_dst (N := 2) rfl ?_); refine box_event ?hg (N := 2) ?hd (cs := #[.int .i64 x.f0, .string x.f1, .int .i64 x.f2, .slice A3 (x.f3).length c3, .slice A4 (x.f4).length c4]) (t := 42) ?hr ?_; (case hd => rfl); (case hg => rfl); (case hr => first | (go_simp; done) | (go_simp; rfl)); intro g2 hg_ w_ hbox hb; have B2 := Aside0.mk hbox; have LB2 := Aside0.mk ((by rw [hg_]; exact below_size HB.out) : w.heap.size ≤ g2); replace HB := Aside0.mk (below_step HB.out hb); clear hb hbox hg_) | ((with_reducible refine gate_dst (N := 3) rfl ?_); refine box_event ?hg (N := 3) ?hd (cs := #[.int .i64 0, .string ⟨#[]⟩, .int .i64 0, .slice none 0 0, .slice none 0 0]) (t := 42) ?hr ?_; (case hd => rfl); (case hg => rfl); (case hr => first | (go_simp; done) | (go_simp; rfl)); intro g3 hg_ w_ hbox hb; replace B2 := Aside0.mk (below_blk B2.out hb); have B3 := Aside0.mk hbox; have LB3 := Aside0.mk ((by rw [hg_]; exact below_size HB.out) : w.heap.size ≤ g3); replace HB := Aside0.mk (below_step HB.out hb); clear hb hbox hg_; have c2_0 := (blk_cell B2.out 0).trans rfl; have c2_1 := (blk_cell B2.out 1).trans rfl; have c2_2 := (blk_cell B2.out 2).trans rfl; have c2_3 := (blk_cell B2.out 3).trans rfl; have c2_4 := (blk_cell B2.out 4).trans rfl; have c3_0 := (blk_cell B3.out 0).trans rfl; have c3_1 := (blk_cell B3.out 1).trans rfl; have c3_2 := (blk_cell B3.out 2).trans rfl; have c3_3 := (blk_cell B3.out 3).trans rfl; have c3_4 := (blk_cell B3.out 4).trans rfl))
   go_ret
   exact ⟨rfl, HB.out⟩
 | true =>
 cases h1 : x.f1.toList.isEmpty with
 | false =>
   have h1' : (x.f1.toList == []) = false := by rw [← h1]; cases x.f1.toList <;> rfl
   go_enter Tryz.func98, Tryz.ntmps98
   go_wp2_with (first | ((with_reducible refine gate_dst (N := 2) rfl ?_); refine box_event ?hg (N := 2) ?hd (cs := #[.int .i64 x.f0, .string x.f1, .int .i64 x.f2, .slice A3 (x.f3).length c3, .slice A4 (x.f4).length c4]) (t := 42) ?hr ?_; (case hd => rfl); (case hg => rfl); (case hr => first | (go_simp; done) | (go_simp; rfl)); intro g2 hg_ w_ hbox hb; have B2 := Aside0.mk hbox; have LB2 := Aside0.mk ((by rw [hg_]; exact below_size HB.out) : w.heap.size ≤ g2); replace HB := Aside0.mk (below_step HB.out hb); clear hb hbox hg_) | ((with_reducible refine gate_dst (N := 3) rfl ?_); refine box_event ?hg (N := 3) ?hd (cs := #[.int .i64 0, .string ⟨#[]⟩, .int .i64 0, .slice none 0 0, .slice none 0 0]) (t := 42) ?hr ?_; (case hd => rfl); (case hg => rfl); (case hr => first | (go_simp; done) | (go_simp; rfl)); intro g3 hg_ w_ hbox hb; replace B2 := Aside0.mk (below_blk B2.out hb); have B3 := Aside0.mk hbox; have LB3 := Aside0.mk ((by rw [hg_]; exact below_size HB.out) : w.heap.size ≤ g3); replace HB := Aside0.mk (below_step HB.out hb); clear hb hbox hg_; have c2_0 := (blk_cell B2.out 0).trans rfl; have c2_1 := (blk_cell B2.out 1).trans rfl; have c2_2 := (blk_cell B2.out 2).trans rfl; have c2_3 := (blk_cell B2.out 3).trans rfl; have c2_4 := (blk_cell B2.out 4).trans rfl; have c3_0 := (blk_cell B3.out 0).trans rfl; have c3_1 := (blk_cell B3.out 1).trans rfl; have c3_2 := (blk_cell B3.out 2).trans rfl; have c3_3 := (blk_cell B3.out 3).trans rfl; have c3_4 := (blk_cell B3.out 4).trans rfl))
   go_ret
   exact ⟨rfl, HB.out⟩
 | true =>
 have h1' : (x.f1.toList == []) = true := by rw [← h1]; cases x.f1.toList <;> rfl
 cases h2 : (x.f2 == 0) with
 | false =>
   go_enter Tryz.func98, Tryz.ntmps98
   go_wp2_with (first | ((with_reducible refine gate_dst (N := 2) rfl ?_); refine box_event ?hg (N := 2) ?hd (cs := #[.int .i64 x.f0, .string x.f1, .int .i64 x.f2, .slice A3 (x.f3).length c3, .slice A4 (x.f4).length c4]) (t := 42) ?hr ?_; (case hd => rfl); (case hg => rfl); (case hr => first | (go_simp; done) | (go_simp; rfl)); intro g2 hg_ w_ hbox hb; have B2 := Aside0.mk hbox; have LB2 := Aside0.mk ((by rw [hg_]; exact below_size HB.out) : w.heap.size ≤ g2); replace HB := Aside0.mk (below_step HB.out hb); clear hb hbox hg_) | ((with_reducible refine gate_dst (N := 3) rfl ?_); refine box_event ?hg (N := 3) ?hd (cs := #[.int .i64 0, .string ⟨#[]⟩, .int .i64 0, .slice none 0 0, .slice none 0 0]) (t := 42) ?hr ?_; (case hd => rfl); (case hg => rfl); (case hr => first | (go_simp; done) | (go_simp; rfl)); intro g3 hg_ w_ hbox hb; replace B2 := Aside0.mk (below_blk B2.out hb); have B3 := Aside0.mk hbox; have LB3 := Aside0.mk ((by rw [hg_]; exact below_size HB.out) : w.heap.size ≤ g3); replace HB := Aside0.mk (below_step HB.out hb); clear hb hbox hg_; have c2_0 := (blk_cell B2.out 0).trans rfl; have c2_1 := (blk_cell B2.out 1).trans rfl; have c2_2 := (blk_cell B2.out 2).trans rfl; have c2_3 := (blk_cell B2.out 3).trans rfl; have c2_4 := (blk_cell B2.out 4).trans rfl; have c3_0 := (blk_cell B3.out 0).trans rfl; have c3_1 := (blk_cell B3.out 1).trans rfl; have c3_2 := (blk_cell B3.out 2).trans rfl; have c3_3 := (blk_cell B3.out 3).trans rfl; have c3_4 := (blk_cell B3.out 4).trans rfl))
   go_ret
   exact ⟨rfl, HB.out⟩
 | true =>
   go_enter Tryz.func98, Tryz.ntmps98
   go_wp2_with (first | ((with_reducible refine gate_dst (N := 2) rfl ?_); refine box_event ?hg (N := 2) ?hd (cs := #[.int .i64 x.f0, .string x.f1, .int .i64 x.f2, .slice A3 (x.f3).length c3, .slice A4 (x.f4).length c4]) (t := 42) ?hr ?_; (case hd => rfl); (case hg => rfl); (case hr => first | (go_simp; done) | (go_simp; rfl)); intro g2 hg_ w_ hbox hb; have B2 := Aside0.mk hbox; have LB2 := Aside0.mk ((by rw [hg_]; exact below_size HB.out) : w.heap.size ≤ g2); replace HB := Aside0.mk (below_step HB.out hb); clear hb hbox hg_) | ((with_reducible refine gate_dst (N := 3) rfl ?_); refine box_event ?hg (N := 3) ?hd (cs := #[.int .i64 0, .string ⟨#[]⟩, .int .i64 0, .slice none 0 0, .slice none 0 0]) (t := 42) ?hr ?_; (case hd => rfl); (case hg => rfl); (case hr => first | (go_simp; done) | (go_simp; rfl)); intro g3 hg_ w_ hbox hb; replace B2 := Aside0.mk (below_blk B2.out hb); have B3 := Aside0.mk hbox; have LB3 := Aside0.mk ((by rw [hg_]; exact below_size HB.out) : w.heap.size ≤ g3); replace HB := Aside0.mk (below_step HB.out hb); clear hb hbox hg_; have c2_0 := (blk_cell B2.out 0).trans rfl; have c2_1 := (blk_cell B2.out 1).trans rfl; have c2_2 := (blk_cell B2.out 2).trans rfl; have c2_3 := (blk_cell B2.out 3).trans rfl; have c2_4 := (blk_cell B2.out 4).trans rfl; have c3_0 := (blk_cell B3.out 0).trans rfl; have c3_1 := (blk_cell B3.out 1).trans rfl; have c3_2 := (blk_cell B3.out 2).trans rfl; have c3_3 := (blk_cell B3.out 3).trans rfl; have c3_4 := (blk_cell B3.out 4).trans rfl))
   with_reducible refine (hse _ HB.out).mono ?_
   rintro e w3 ⟨rfl, hb⟩
   replace B2 := Aside0.mk (below_blk B2.out hb)
   replace B3 := Aside0.mk (below_blk B3.out hb)
   replace HB := Aside0.mk (below_step HB.out hb)
   clear hb
   clear c2_0 c2_1 c2_2 c2_3 c2_4
   clear c3_0 c3_1 c3_2 c3_3 c3_4
   have c2_0 := (blk_cell B2.out 0).trans rfl
   have c2_1 := (blk_cell B2.out 1).trans rfl
   have c2_2 := (blk_cell B2.out 2).trans rfl
   have c2_3 := (blk_cell B2.out 3).trans rfl
   have c2_4 := (blk_cell B2.out 4).trans rfl
   have c3_0 := (blk_cell B3.out 0).trans rfl
   have c3_1 := (blk_cell B3.out 1).trans rfl
   have c3_2 := (blk_cell B3.out 2).trans rfl
   have c3_3 := (blk_cell B3.out 3).trans rfl
   have c3_4 := (blk_cell B3.out 4).trans rfl
   cases b with
   | false =>
     go_wp2_with fail
     go_ret
     exact ⟨rfl, HB.out⟩
   | true =>
     go_wp2_with fail
     with_reducible refine (hef _).mono ?_
     rintro e w4 ⟨rfl, hb⟩
     replace HB := Aside0.mk (below_step HB.out hb)
     clear hb
     go_wp2_with fail
     go_ret
     exact ⟨rfl, HB.out⟩
theorem blk_as {W w2 : World} {g : Nat} {o o' : Obj} (h : W.heap[g]? = some o) (hg : (W.alloc o').grownBy w2 (some W.heap.size)) : w2.heap[g]? = some o := by
 have hl := blk_lt h
 exact (hg.block g (by simp; omega) (by intro e; injection e with e; omega)).trans (blk_alloc h _)
theorem below_as {w W w2 : World} {o' : Obj} (h : Below w.heap.size w W) (hg : (W.alloc o').grownBy w2 (some W.heap.size)) : Below w.heap.size w w2 := by
 have := h.size
 exact (below_alloc h _).grown hg (by simp; omega) (fun k hk => by cases hk; exact this)
theorem all_getD {α : Type} (xs : List α) (q : α → Bool) (z : α) (h : ∀ i, i < xs.length → q (xs.getD i z) = true) : xs.all q = true := by
 rw [List.all_eq_true]
 intro x hx
 obtain ⟨i, hi⟩ := List.getElem?_of_mem hx
 have := h i (List.getElem?_eq_some_iff.1 hi).1
 rw [List.getD_eq_getElem?_getD, hi] at this
 exact this
theorem all_getD_no {α : Type} (xs : List α) (q : α → Bool) (z : α) (i : Nat) (hi : i < xs.length) (h : q (xs.getD i z) = false) : xs.all q = false := by
 rw [List.all_eq_false]
 refine ⟨xs.getD i z, ?_, by simpa using h⟩
 rw [List.getD_eq_getElem?_getD, List.getElem?_eq_getElem hi]
 exact List.getElem_mem hi
def eqB (made : Bool) (q : S44) : Bool := allB q.f0 1 6 (nameB made) && exprB made q.f1
set_option maxHeartbeats 4000000 in
theorem eq_calls (made : Bool) (q : S44) (w : World) (csx : List Value) (hK : k44.K w q csx) :
   Calls Tryz.prog 97 #[.agg #[.bool made], .agg csx.toArray] w fun e w' => e = .returned (.bool (eqB made q)) ∧ Below w.heap.size w w' := by
 obtain ⟨A0, c0, A4, c4, A5, c5, rfl, l0, g0, l4, g4, l5, g5⟩ := k44_open hK
 have KX := Aside0.mk hK
 clear hK
 have L0 := Aside0.mk l0; have G0 := Aside0.mk g0; clear l0 g0
 have L4 := Aside0.mk l4; have G4 := Aside0.mk g4; clear l4 g4
 have L5 := Aside0.mk l5; have G5 := Aside0.mk g5; clear l5 g5
 have HB := Aside0.mk (Below.refl w.heap.size w)
 have hu := Tryz.underlying44
 have hu2 := Tryz.underlying71
 have hu3 := Tryz.underlying42
 have hall := fun (W : World) (hB : Below w.heap.size w W) => all_calls W _ (nameB made) (name_fn W made) A0 c0 q.f0 (Kd.C_below G0.out hB) 1 6 W (Below.refl _ _)
 have hex := fun (W : World) (hB : Below w.heap.size w W) => expr_calls made q.f1 W _ (Kd.K_below _ hB (k42_mk w q.f1 L4.out G4.out L5.out G5.out))
 have HF := Aside0.mk (show eqB made q = (allB q.f0 1 6 (nameB made) && exprB made q.f1) from rfl)
 generalize allB q.f0 1 6 (nameB made) = a at hall HF
 generalize exprB made q.f1 = b at hex HF
 go_enter Tryz.func97, Tryz.ntmps97
 go_wp2_with (first | ((with_reducible refine gate_dst (N := 2) rfl ?_); refine box_event ?hg (N := 2) ?hd (cs := #[.bool made]) (t := 71) ?hr ?_; (case hd => rfl); (case hg => rfl); (case hr => first | (go_simp; done) | (go_simp; rfl)); intro g2 hg_ w_ hbox hb; have B2 := Aside0.mk hbox; have LB2 := Aside0.mk ((by rw [hg_]; exact below_size HB.out) : w.heap.size ≤ g2); replace HB := Aside0.mk (below_step HB.out hb); clear hb hbox hg_) | ((with_reducible refine gate_dst (N := 3) rfl ?_); refine box_event ?hg (N := 3) ?hd (cs := #[.slice A0 (q.f0).length c0, .int .i64 q.f1.f0, .string q.f1.f1, .int .i64 q.f1.f2, .slice A4 (q.f1.f3).length c4, .slice A5 (q.f1.f4).length c5]) (t := 44) ?hr ?_; (case hd => rfl); (case hg => rfl); (case hr => first | (go_simp; done) | (go_simp; rfl)); intro g3 hg_ w_ hbox hb; replace B2 := Aside0.mk (below_blk B2.out hb); have B3 := Aside0.mk hbox; have LB3 := Aside0.mk ((by rw [hg_]; exact below_size HB.out) : w.heap.size ≤ g3); replace HB := Aside0.mk (below_step HB.out hb); clear hb hbox hg_; have cg2_0 := (blk_cell B2.out 0).trans rfl; have cg3_0 := (blk_cell B3.out 0).trans rfl; have cg3_1 := (blk_cell B3.out 1).trans rfl; have cg3_2 := (blk_cell B3.out 2).trans rfl; have cg3_3 := (blk_cell B3.out 3).trans rfl; have cg3_4 := (blk_cell B3.out 4).trans rfl; have cg3_5 := (blk_cell B3.out 5).trans rfl))
 with_reducible refine (hall _ HB.out).mono ?_
 rintro e w3 ⟨rfl, hb⟩
 replace B2 := Aside0.mk (below_blk B2.out hb)
 replace B3 := Aside0.mk (below_blk B3.out hb)
 replace HB := Aside0.mk (below_step HB.out hb)
 clear hb
 clear cg2_0
 clear cg3_0 cg3_1 cg3_2 cg3_3 cg3_4 cg3_5
 cases a with
 | false =>
   have cg2_0 := (blk_cell B2.out 0).trans rfl
   have cg3_0 := (blk_cell B3.out 0).trans rfl
   have cg3_1 := (blk_cell B3.out 1).trans rfl
   have cg3_2 := (blk_cell B3.out 2).trans rfl
   have cg3_3 := (blk_cell B3.out 3).trans rfl
   have cg3_4 := (blk_cell B3.out 4).trans rfl
   have cg3_5 := (blk_cell B3.out 5).trans rfl
   go_wp2_with fail
   go_ret
   exact ⟨by rw [HF.out]; rfl, HB.out⟩
 | true =>
   have cg2_0 := (blk_cell B2.out 0).trans rfl
   have cg3_0 := (blk_cell B3.out 0).trans rfl
   have cg3_1 := (blk_cell B3.out 1).trans rfl
   have cg3_2 := (blk_cell B3.out 2).trans rfl
   have cg3_3 := (blk_cell B3.out 3).trans rfl
   have cg3_4 := (blk_cell B3.out 4).trans rfl
   have cg3_5 := (blk_cell B3.out 5).trans rfl
   go_wp2_with fail
   with_reducible refine (hex _ HB.out).mono ?_
   rintro e w4 ⟨rfl, hb⟩
   replace HB := Aside0.mk (below_step HB.out hb)
   clear hb
   go_wp2_with fail
   go_ret
   exact ⟨by rw [HF.out]; rfl, HB.out⟩
def wayB (made : Bool) (w : S93) : Bool := conB made w.f1 && exprB made w.f0
def stateB (made : Bool) (s : S65) : Bool := conB made s.f0 && (decide (s.f1.length ≤ 24) && (decide (s.f2.length ≤ 4) && (s.f1.all (eqB made) && s.f2.all (wayB made))))
set_option maxHeartbeats 4000000 in
theorem state_calls (made : Bool) (s : S65) (w : World) (csx : List Value) (hK : k65.K w s csx) :
   Calls Tryz.prog 100 #[.agg #[.bool made], .agg csx.toArray] w fun e w' => e = .returned (.bool (stateB made s)) ∧ Below w.heap.size w w' := by
 obtain ⟨A1, c1, A2, c2, rfl, l1, g1, l2, g2⟩ := k65_open hK
 have KX := Aside0.mk hK
 clear hK
 have L1 := Aside0.mk l1; have G1 := Aside0.mk g1; clear l1 g1
 have L2 := Aside0.mk l2; have G2 := Aside0.mk g2; clear l2 g2
 have HB := Aside0.mk (Below.refl w.heap.size w)
 have hu := Tryz.underlying65
 have hu2 := Tryz.underlying71
 have hu3 := Tryz.underlying42
 have hcon := fun W => con_calls made s.f0 W
 have HF := Aside0.mk (show stateB made s = (conB made s.f0 && (decide (s.f1.length ≤ 24) && (decide (s.f2.length ≤ 4) && (s.f1.all (eqB made) && s.f2.all (wayB made))))) from rfl)
 generalize conB made s.f0 = a at hcon HF
 go_enter Tryz.func100, Tryz.ntmps100
 go_wp2_with (first | ((with_reducible refine gate_dst (N := 2) rfl ?_); refine box_event ?hg (N := 2) ?hd (cs := #[.bool made]) (t := 71) ?hr ?_; (case hd => rfl); (case hg => rfl); (case hr => first | (go_simp; done) | (go_simp; rfl)); intro g2 hg_ w_ hbox hb; have B2 := Aside0.mk hbox; have LB2 := Aside0.mk ((by rw [hg_]; exact below_size HB.out) : w.heap.size ≤ g2); replace HB := Aside0.mk (below_step HB.out hb); clear hb hbox hg_) | ((with_reducible refine gate_dst (N := 3) rfl ?_); refine box_event ?hg (N := 3) ?hd (cs := #[.string s.f0, .slice A1 (s.f1).length c1, .slice A2 (s.f2).length c2]) (t := 65) ?hr ?_; (case hd => rfl); (case hg => rfl); (case hr => first | (go_simp; done) | (go_simp; rfl)); intro g3 hg_ w_ hbox hb; replace B2 := Aside0.mk (below_blk B2.out hb); have B3 := Aside0.mk hbox; have LB3 := Aside0.mk ((by rw [hg_]; exact below_size HB.out) : w.heap.size ≤ g3); replace HB := Aside0.mk (below_step HB.out hb); clear hb hbox hg_; have cg2_0 := (blk_cell B2.out 0).trans rfl; have cg3_0 := (blk_cell B3.out 0).trans rfl; have cg3_1 := (blk_cell B3.out 1).trans rfl; have cg3_2 := (blk_cell B3.out 2).trans rfl))
 with_reducible refine (hcon _).mono ?_
 rintro e w3 ⟨rfl, hb⟩
 replace B2 := Aside0.mk (below_blk B2.out hb)
 replace B3 := Aside0.mk (below_blk B3.out hb)
 replace HB := Aside0.mk (below_step HB.out hb)
 clear hb
 clear cg2_0
 clear cg3_0 cg3_1 cg3_2
 cases a with
 | false =>
   have cg2_0 := (blk_cell B2.out 0).trans rfl
   have cg3_0 := (blk_cell B3.out 0).trans rfl
   have cg3_1 := (blk_cell B3.out 1).trans rfl
   have cg3_2 := (blk_cell B3.out 2).trans rfl
   go_wp2_with fail
   go_ret
   exact ⟨by rw [HF.out]; rfl, HB.out⟩
 | true =>
 by_cases k1 : s.f1.length ≤ 24
 rotate_left
 · have d1 : decide ((s.f1.length : Int) > 24) = true := decide_eq_true (by omega)
   have D := Aside0.mk (decide_eq_false k1); clear k1
   have cg2_0 := (blk_cell B2.out 0).trans rfl
   have cg3_0 := (blk_cell B3.out 0).trans rfl
   have cg3_1 := (blk_cell B3.out 1).trans rfl
   have cg3_2 := (blk_cell B3.out 2).trans rfl
   go_wp2_with fail
   go_ret
   exact ⟨by rw [HF.out, D.out]; rfl, HB.out⟩
 have d1 : decide ((s.f1.length : Int) > 24) = false := decide_eq_false (by omega)
 have D := Aside0.mk (decide_eq_true k1); clear k1
 rw [D.out] at HF
 by_cases k2 : s.f2.length ≤ 4
 rotate_left
 · have d2 : decide ((s.f2.length : Int) > 4) = true := decide_eq_true (by omega)
   have D2 := Aside0.mk (decide_eq_false k2); clear k2
   have cg2_0 := (blk_cell B2.out 0).trans rfl
   have cg3_0 := (blk_cell B3.out 0).trans rfl
   have cg3_1 := (blk_cell B3.out 1).trans rfl
   have cg3_2 := (blk_cell B3.out 2).trans rfl
   go_wp2_with fail
   go_ret
   exact ⟨by rw [HF.out, D2.out]; rfl, HB.out⟩
 have d2 : decide ((s.f2.length : Int) > 4) = false := decide_eq_false (by omega)
 have D2 := Aside0.mk (decide_eq_true k2); clear k2
 rw [D2.out] at HF
 have cg2_0 := (blk_cell B2.out 0).trans rfl
 have cg3_0 := (blk_cell B3.out 0).trans rfl
 have cg3_1 := (blk_cell B3.out 1).trans rfl
 have cg3_2 := (blk_cell B3.out 2).trans rfl
 go_wp2_with fail
 clear cg2_0
 clear cg3_0 cg3_1 cg3_2
 go_loopg [29] s.f1.length (fun gg s_ wr => ∃ kk : Nat, kk ≤ s.f1.length ∧ s.f1.length - kk ≤ gg ∧ s_ = .int .i64 kk ∧ Aside0 (Below w.heap.size w wr) ∧ Aside0 (wr.heap[g2]? = some (.cells #[.bool made] 71 (0, 0))) ∧ Aside0 (wr.heap[g3]? = some (.cells #[.string s.f0, .slice A1 (s.f1).length c1, .slice A2 (s.f2).length c2] 65 (0, 0))) ∧ Aside0 (∀ j, j < kk → eqB made (s.f1.getD j z44) = true))
 case atStart => exact ⟨0, Nat.zero_le _, by omega, rfl, HB, B2, B3, ⟨fun j hj => absurd hj (Nat.not_lt_zero _)⟩⟩
 case round =>
   clear HB B2 B3
   obtain ⟨kk, hkk, hg, rfl, HB, B2, B3, N⟩ := hrel
   have hmx : s.f1.length ≤ 9223372036854775807 := (G1.out).2.1
   by_cases hlt : kk < s.f1.length
   · have hltz : (kk : Int) < (s.f1.length : Int) := by omega
     obtain ⟨ead, ecs, rfl, _, eK, ecc⟩ := Kd.C_get G1.out z44 (kk : Int) (by omega) (by omega)
     have eK' := eK
     obtain ⟨eA0, ec0, eA4, ec4, eA5, ec5, rfl, el0, eg0, el4, eg4, el5, eg5⟩ := k44_open eK'
     have ex0 := (HB.out.cell (World.block_lt_of_cell? w _ (ecc 0 _ rfl))).trans (ecc 0 _ rfl)
     have ex1 := (HB.out.cell (World.block_lt_of_cell? w _ (ecc 1 _ rfl))).trans (ecc 1 _ rfl)
     have ex2 := (HB.out.cell (World.block_lt_of_cell? w _ (ecc 2 _ rfl))).trans (ecc 2 _ rfl)
     have ex3 := (HB.out.cell (World.block_lt_of_cell? w _ (ecc 3 _ rfl))).trans (ecc 3 _ rfl)
     have ex4 := (HB.out.cell (World.block_lt_of_cell? w _ (ecc 4 _ rfl))).trans (ecc 4 _ rfl)
     have ex5 := (HB.out.cell (World.block_lt_of_cell? w _ (ecc 5 _ rfl))).trans (ecc 5 _ rfl)
     rw [show (k44).sz = 6 from rfl, Nat.add_zero, Int.toNat_natCast] at ex0
     rw [show (k44).sz = 6 from rfl, Int.toNat_natCast, add_field _ _ 1 (by omega)] at ex1
     rw [show (k44).sz = 6 from rfl, Int.toNat_natCast, add_field _ _ 2 (by omega)] at ex2
     rw [show (k44).sz = 6 from rfl, Int.toNat_natCast, add_field _ _ 3 (by omega)] at ex3
     rw [show (k44).sz = 6 from rfl, Int.toNat_natCast, add_field _ _ 4 (by omega)] at ex4
     rw [show (k44).sz = 6 from rfl, Int.toNat_natCast, add_field _ _ 5 (by omega)] at ex5
     clear ecc
     try simp only [Int.toNat_natCast] at ex0 ex1 ex2 ex3 ex4 ex5 eK el0 eg0 el4 eg4 el5 eg5
     generalize Yy0 : s.f1.getD kk z44 = y at ex0 ex1 ex2 ex3 ex4 ex5 eK el0 eg0 el4 eg4 el5 eg5
     have Yy := Aside0.mk Yy0; clear Yy0
     have eL0 := Aside0.mk el0; have eG0 := Aside0.mk eg0; clear el0 eg0
     have eL4 := Aside0.mk el4; have eG4 := Aside0.mk eg4; clear el4 eg4
     have eL5 := Aside0.mk el5; have eG5 := Aside0.mk eg5; clear el5 eg5
     have heq := fun (W : World) (hB : Below w.heap.size w W) => eq_calls made y W _ (Kd.K_below _ hB eK)
     have HQ := Aside0.mk (show eqB made y = eqB made y from rfl)
     generalize hg1 : eqB made y = a at heq HQ
     replace HQ := Aside0.mk hg1; clear hg1
     have hu4 := Tryz.underlying44
     go_wp2_with ((with_reducible refine gate_store (t := 44) (p := 6) rfl ?_); refine store_whole rfl rfl 44 _ _ rfl wr.heap.size _ 44 rfl (blk_new _ _) _ rfl rfl rfl (by simp [Value.oneCell']) ?_; intro w2 hb2 hg2; replace B2 := Aside0.mk (blk_as B2.out hg2); replace B3 := Aside0.mk (blk_as B3.out hg2); replace HB := Aside0.mk (below_as HB.out hg2); obtain ⟨ge, hq_⟩ : ∃ g_, g_ = wr.heap.size := ⟨_, rfl⟩; rw [← hq_] at hb2; rw [← hq_]; have BE := Aside0.mk hb2; clear hb2 hg2 hq_; have cg2_0 := (blk_cell B2.out 0).trans rfl; have cg3_0 := (blk_cell B3.out 0).trans rfl; have cg3_1 := (blk_cell B3.out 1).trans rfl; have cg3_2 := (blk_cell B3.out 2).trans rfl; have ce_0 := (blk_cell BE.out 0).trans rfl; have ce_1 := (blk_cell BE.out 1).trans rfl; have ce_2 := (blk_cell BE.out 2).trans rfl; have ce_3 := (blk_cell BE.out 3).trans rfl; have ce_4 := (blk_cell BE.out 4).trans rfl; have ce_5 := (blk_cell BE.out 5).trans rfl)
     with_reducible refine (heq _ HB.out).mono ?_
     rintro e w5 ⟨rfl, hb⟩
     replace B2 := Aside0.mk (below_blk B2.out hb)
     replace B3 := Aside0.mk (below_blk B3.out hb)
     replace BE := Aside0.mk (below_blk BE.out hb)
     replace HB := Aside0.mk (below_step HB.out hb)
     clear hb
     clear cg2_0
     clear cg3_0 cg3_1 cg3_2
     clear ce_0 ce_1 ce_2 ce_3 ce_4 ce_5
     cases a with
     | false =>
       have cg2_0 := (blk_cell B2.out 0).trans rfl
       have cg3_0 := (blk_cell B3.out 0).trans rfl
       have cg3_1 := (blk_cell B3.out 1).trans rfl
       have cg3_2 := (blk_cell B3.out 2).trans rfl
       have ce_0 := (blk_cell BE.out 0).trans rfl
       have ce_1 := (blk_cell BE.out 1).trans rfl
       have ce_2 := (blk_cell BE.out 2).trans rfl
       have ce_3 := (blk_cell BE.out 3).trans rfl
       have ce_4 := (blk_cell BE.out 4).trans rfl
       have ce_5 := (blk_cell BE.out 5).trans rfl
       go_wp2_with fail
       go_ret
       exact ⟨by rw [HF.out, all_getD_no s.f1 (eqB made) z44 kk hlt (by rw [Yy.out, HQ.out])]; rfl, HB.out⟩
     | true =>
     have cg2_0 := (blk_cell B2.out 0).trans rfl
     have cg3_0 := (blk_cell B3.out 0).trans rfl
     have cg3_1 := (blk_cell B3.out 1).trans rfl
     have cg3_2 := (blk_cell B3.out 2).trans rfl
     have ce_0 := (blk_cell BE.out 0).trans rfl
     have ce_1 := (blk_cell BE.out 1).trans rfl
     have ce_2 := (blk_cell BE.out 2).trans rfl
     have ce_3 := (blk_cell BE.out 3).trans rfl
     have ce_4 := (blk_cell BE.out 4).trans rfl
     have ce_5 := (blk_cell BE.out 5).trans rfl
     go_wp2_with fail
     go_roundg (s.f1.length - (kk + 1))
     case measure => omega
     case rel =>
       refine ⟨kk + 1, by omega, by omega, by go_num, HB, B2, B3, ⟨fun j hj => ?_⟩⟩
       by_cases e : j = kk
       · subst e; rw [Yy.out]; exact HQ.out
       · exact N.out j (by omega)
   · have hltz : ¬ (kk : Int) < (s.f1.length : Int) := by omega
     obtain rfl : kk = s.f1.length := by omega
     have ALL := Aside0.mk (all_getD _ _ _ N.out)
     clear N hg hkk
     have AE := ALL
     clear ALL
     have cg2_0 := (blk_cell B2.out 0).trans rfl
     have cg3_0 := (blk_cell B3.out 0).trans rfl
     have cg3_1 := (blk_cell B3.out 1).trans rfl
     have cg3_2 := (blk_cell B3.out 2).trans rfl
     go_wp2_with fail
     clear cg2_0
     clear cg3_0 cg3_1 cg3_2
     go_loopg [41] s.f2.length (fun gg s_ wr => ∃ kk : Nat, kk ≤ s.f2.length ∧ s.f2.length - kk ≤ gg ∧ s_ = .int .i64 kk ∧ Aside0 (Below w.heap.size w wr) ∧ Aside0 (wr.heap[g2]? = some (.cells #[.bool made] 71 (0, 0))) ∧ Aside0 (wr.heap[g3]? = some (.cells #[.string s.f0, .slice A1 (s.f1).length c1, .slice A2 (s.f2).length c2] 65 (0, 0))) ∧ Aside0 (∀ j, j < kk → wayB made (s.f2.getD j z93) = true))
     case atStart => exact ⟨0, Nat.zero_le _, by omega, rfl, HB, B2, B3, ⟨fun j hj => absurd hj (Nat.not_lt_zero _)⟩⟩
     case round =>
       clear HB B2 B3
       obtain ⟨kk, hkk, hg, rfl, HB, B2, B3, N⟩ := hrel
       have hmx : s.f2.length ≤ 9223372036854775807 := (G2.out).2.1
       by_cases hlt : kk < s.f2.length
       · have hltz : (kk : Int) < (s.f2.length : Int) := by omega
         obtain ⟨ead, ecs, rfl, _, eK, ecc⟩ := Kd.C_get G2.out z93 (kk : Int) (by omega) (by omega)
         have eK' := eK
         obtain ⟨eA3, ec3, eA4, ec4, rfl, el3, eg3, el4, eg4⟩ := k93_open eK'
         have ex0 := (HB.out.cell (World.block_lt_of_cell? w _ (ecc 0 _ rfl))).trans (ecc 0 _ rfl)
         have ex1 := (HB.out.cell (World.block_lt_of_cell? w _ (ecc 1 _ rfl))).trans (ecc 1 _ rfl)
         have ex2 := (HB.out.cell (World.block_lt_of_cell? w _ (ecc 2 _ rfl))).trans (ecc 2 _ rfl)
         have ex3 := (HB.out.cell (World.block_lt_of_cell? w _ (ecc 3 _ rfl))).trans (ecc 3 _ rfl)
         have ex4 := (HB.out.cell (World.block_lt_of_cell? w _ (ecc 4 _ rfl))).trans (ecc 4 _ rfl)
         have ex5 := (HB.out.cell (World.block_lt_of_cell? w _ (ecc 5 _ rfl))).trans (ecc 5 _ rfl)
         rw [show (k93).sz = 6 from rfl, Nat.add_zero, Int.toNat_natCast] at ex0
         rw [show (k93).sz = 6 from rfl, Int.toNat_natCast, add_field _ _ 1 (by omega)] at ex1
         rw [show (k93).sz = 6 from rfl, Int.toNat_natCast, add_field _ _ 2 (by omega)] at ex2
         rw [show (k93).sz = 6 from rfl, Int.toNat_natCast, add_field _ _ 3 (by omega)] at ex3
         rw [show (k93).sz = 6 from rfl, Int.toNat_natCast, add_field _ _ 4 (by omega)] at ex4
         rw [show (k93).sz = 6 from rfl, Int.toNat_natCast, add_field _ _ 5 (by omega)] at ex5
         clear ecc
         try simp only [Int.toNat_natCast] at ex0 ex1 ex2 ex3 ex4 ex5 eK el3 eg3 el4 eg4
         generalize Yy0 : s.f2.getD kk z93 = y at ex0 ex1 ex2 ex3 ex4 ex5 eK el3 eg3 el4 eg4
         have Yy := Aside0.mk Yy0; clear Yy0
         have eL3 := Aside0.mk el3; have eG3 := Aside0.mk eg3; clear el3 eg3
         have eL4 := Aside0.mk el4; have eG4 := Aside0.mk eg4; clear el4 eg4
         have hcon := fun W => con_calls made y.f1 W
         have hex := fun (W : World) (hB : Below w.heap.size w W) => expr_calls made y.f0 W _ (Kd.K_below _ hB (k42_mk w y.f0 eL3.out eG3.out eL4.out eG4.out))
         have HQ := Aside0.mk (show wayB made y = (conB made y.f1 && exprB made y.f0) from rfl)
         generalize conB made y.f1 = a at hcon HQ
         generalize exprB made y.f0 = b at hex HQ
         have hu4 := Tryz.underlying93
         go_wp2_with ((with_reducible refine gate_store (t := 93) (p := 8) rfl ?_); refine store_whole rfl rfl 93 _ _ rfl wr.heap.size _ 93 rfl (blk_new _ _) _ rfl rfl rfl (by simp [Value.oneCell']) ?_; intro w2 hb2 hg2; replace B2 := Aside0.mk (blk_as B2.out hg2); replace B3 := Aside0.mk (blk_as B3.out hg2); replace HB := Aside0.mk (below_as HB.out hg2); obtain ⟨ge, hq_⟩ : ∃ g_, g_ = wr.heap.size := ⟨_, rfl⟩; rw [← hq_] at hb2; rw [← hq_]; have BE := Aside0.mk hb2; clear hb2 hg2 hq_; have cg2_0 := (blk_cell B2.out 0).trans rfl; have cg3_0 := (blk_cell B3.out 0).trans rfl; have cg3_1 := (blk_cell B3.out 1).trans rfl; have cg3_2 := (blk_cell B3.out 2).trans rfl; have ce_0 := (blk_cell BE.out 0).trans rfl; have ce_1 := (blk_cell BE.out 1).trans rfl; have ce_2 := (blk_cell BE.out 2).trans rfl; have ce_3 := (blk_cell BE.out 3).trans rfl; have ce_4 := (blk_cell BE.out 4).trans rfl; have ce_5 := (blk_cell BE.out 5).trans rfl)
         with_reducible refine (hcon _).mono ?_
         rintro e w5 ⟨rfl, hb⟩
         replace B2 := Aside0.mk (below_blk B2.out hb)
         replace B3 := Aside0.mk (below_blk B3.out hb)
         replace BE := Aside0.mk (below_blk BE.out hb)
         replace HB := Aside0.mk (below_step HB.out hb)
         clear hb
         clear cg2_0
         clear cg3_0 cg3_1 cg3_2
         clear ce_0 ce_1 ce_2 ce_3 ce_4 ce_5
         cases a with
         | false =>
           have cg2_0 := (blk_cell B2.out 0).trans rfl
           have cg3_0 := (blk_cell B3.out 0).trans rfl
           have cg3_1 := (blk_cell B3.out 1).trans rfl
           have cg3_2 := (blk_cell B3.out 2).trans rfl
           have ce_0 := (blk_cell BE.out 0).trans rfl
           have ce_1 := (blk_cell BE.out 1).trans rfl
           have ce_2 := (blk_cell BE.out 2).trans rfl
           have ce_3 := (blk_cell BE.out 3).trans rfl
           have ce_4 := (blk_cell BE.out 4).trans rfl
           have ce_5 := (blk_cell BE.out 5).trans rfl
           go_wp2_with fail
           go_ret
           exact ⟨by rw [HF.out, AE.out, all_getD_no s.f2 (wayB made) z93 kk hlt (by rw [Yy.out, HQ.out]; simp)]; rfl, HB.out⟩
         | true =>
         have cg2_0 := (blk_cell B2.out 0).trans rfl
         have cg3_0 := (blk_cell B3.out 0).trans rfl
         have cg3_1 := (blk_cell B3.out 1).trans rfl
         have cg3_2 := (blk_cell B3.out 2).trans rfl
         have ce_0 := (blk_cell BE.out 0).trans rfl
         have ce_1 := (blk_cell BE.out 1).trans rfl
         have ce_2 := (blk_cell BE.out 2).trans rfl
         have ce_3 := (blk_cell BE.out 3).trans rfl
         have ce_4 := (blk_cell BE.out 4).trans rfl
         have ce_5 := (blk_cell BE.out 5).trans rfl
         go_wp2_with fail
         with_reducible refine (hex _ HB.out).mono ?_
         rintro e w6 ⟨rfl, hb⟩
         replace B2 := Aside0.mk (below_blk B2.out hb)
         replace B3 := Aside0.mk (below_blk B3.out hb)
         replace BE := Aside0.mk (below_blk BE.out hb)
         replace HB := Aside0.mk (below_step HB.out hb)
         clear hb
         clear cg2_0
         clear cg3_0 cg3_1 cg3_2
         clear ce_0 ce_1 ce_2 ce_3 ce_4 ce_5
         cases b with
         | false =>
           have cg2_0 := (blk_cell B2.out 0).trans rfl
           have cg3_0 := (blk_cell B3.out 0).trans rfl
           have cg3_1 := (blk_cell B3.out 1).trans rfl
           have cg3_2 := (blk_cell B3.out 2).trans rfl
           have ce_0 := (blk_cell BE.out 0).trans rfl
           have ce_1 := (blk_cell BE.out 1).trans rfl
           have ce_2 := (blk_cell BE.out 2).trans rfl
           have ce_3 := (blk_cell BE.out 3).trans rfl
           have ce_4 := (blk_cell BE.out 4).trans rfl
           have ce_5 := (blk_cell BE.out 5).trans rfl
           go_wp2_with fail
           go_ret
           exact ⟨by rw [HF.out, AE.out, all_getD_no s.f2 (wayB made) z93 kk hlt (by rw [Yy.out, HQ.out]; simp)]; rfl, HB.out⟩
         | true =>
         have cg2_0 := (blk_cell B2.out 0).trans rfl
         have cg3_0 := (blk_cell B3.out 0).trans rfl
         have cg3_1 := (blk_cell B3.out 1).trans rfl
         have cg3_2 := (blk_cell B3.out 2).trans rfl
         have ce_0 := (blk_cell BE.out 0).trans rfl
         have ce_1 := (blk_cell BE.out 1).trans rfl
         have ce_2 := (blk_cell BE.out 2).trans rfl
         have ce_3 := (blk_cell BE.out 3).trans rfl
         have ce_4 := (blk_cell BE.out 4).trans rfl
         have ce_5 := (blk_cell BE.out 5).trans rfl
         go_wp2_with fail
         go_roundg (s.f2.length - (kk + 1))
         case measure => omega
         case rel =>
           refine ⟨kk + 1, by omega, by omega, by go_num, HB, B2, B3, ⟨fun j hj => ?_⟩⟩
           by_cases e : j = kk
           · subst e; rw [Yy.out]; exact HQ.out
           · exact N.out j (by omega)
       · have hltz : ¬ (kk : Int) < (s.f2.length : Int) := by omega
         obtain rfl : kk = s.f2.length := by omega
         have ALL := Aside0.mk (all_getD _ _ _ N.out)
         clear N hg hkk
         have AW := ALL
         clear ALL
         go_wp2_with fail
         go_ret
         exact ⟨by rw [HF.out, AE.out, AW.out]; rfl, HB.out⟩
end Go.Proofs.YtggfnbnochmkdaaGreat
