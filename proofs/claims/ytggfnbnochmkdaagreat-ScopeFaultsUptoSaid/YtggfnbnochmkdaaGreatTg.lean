/- Package tree: items, nodes, programs. -/
import Derived.Test.YtggfnbnochmkdaaGreatTf
namespace Go.Proofs.YtggfnbnochmkdaaGreat
open Go Go.RowKit Go.Lib Go.Proofs.YtggfnbnochmkdaaGreatW.PrintWords Go.Proofs.YtggfnbnochmkdaaGreat.PScope
set_option maxRecDepth 100000
set_option linter.unusedSimpArgs false
set_option linter.unusedVariables false
def itemB (made : Bool) (x : S47) : Bool := if x.f1.length = 0 then eqB made x.f0 else (((x.f0.f0.length : Int) == 0) && (zeroB x.f0.f1 && decide ((x.f1.length : Int) ≤ 8))) && !x.f1.any (fun k => !stateB made k)
theorem item1_eg : ∀ args w, (callFunc 99 args).run Tryz.prog w = .ok (.enter 99 args) w := enters_of Tryz.func99 (by kernel_rfl) rfl
theorem item1_calls (made : Bool) (x : S65) (gb : Nat) (W : World) (cs : List Value) (hK : k65.K W x cs) (hb : W.heap[gb]? = some (.cells #[.bool made] 71 (0, 0))) :
   Calls Tryz.prog 99 #[.agg cs.toArray, .pointer (some ⟨gb, 0, none⟩)] W fun e w' => e = .returned (.bool (!stateB made x)) ∧ Below W.heap.size W w' := by
 have hcall := fun W' (h : Below W.heap.size W W') => state_calls made x W' cs (Kd.K_below _ h hK)
 obtain ⟨A1, c1, A2, c2, rfl, l1, g1, l2, g2⟩ := k65_open hK
 have h0 := fun o => (blk_cell (blk_alloc hb o) 0).trans rfl
 have hu := Tryz.underlying65
 have hu2 := Tryz.underlying71
 clear hb hK
 generalize stateB made x = b at hcall ⊢
 go_enter Tryz.func99, Tryz.ntmps99
 go_wp2_with fail
 refine (hcall _ (below_alloc (Below.refl _ _) _)).mono ?_; rintro e w1 ⟨rfl, hb1⟩
 go_wp2_with fail
 go_ret
 exact ⟨rfl, below_step (below_alloc (Below.refl _ _) _) hb1⟩
theorem item1_any (made : Bool) (w0 W : World) (A : Option Addr) (c : Nat) (xs : List S65) (hC : k65.C w0 A xs.length xs) (gb : Nat) (hB : Below w0.heap.size w0 W) (hb : W.heap[gb]? = some (.cells #[.bool made] 71 (0, 0))) :
   Calls Tryz.prog 53 #[.slice A xs.length c, .func (.func 99) #[] #[.pointer (some ⟨gb, 0, none⟩)]] W fun e w' => e = .returned (.bool (xs.any (fun k => !stateB made k))) ∧ Below W.heap.size W w' := by
 refine (ct_State _ _ item1_eg w0 W A c xs hC (fun i => !stateB made (xs.getD i z65)) (fun _ W' => Below W.heap.size W W') (fun _ W' => Below W.heap.size W W') (fun _ W' h => below_step hB h) ?_ (Below.refl _ _)).mono ?_
 · intro i W' ds hi hI hKd
   refine (item1_calls made _ gb W' ds (Kd.K_below _ (below_step hB hI) hKd) (below_blk hb hI)).mono ?_
   rintro e w' ⟨rfl, hb'⟩
   exact ⟨rfl, fun _ => below_step hI hb', fun _ => below_step hI hb'⟩
 · intro e w' h
   exact CtPost.any (q := fun k => !stateB made k) (z := z65) (I := fun W' => Below W.heap.size W W') h
set_option maxHeartbeats 4000000 in
theorem item_calls (made : Bool) (x : S47) (w : World) (csx : List Value) (hK : k47.K w x csx) :
   Calls Tryz.prog 73 #[.agg #[.bool made], .agg csx.toArray] w fun e w' => e = .returned (.bool (itemB made x)) ∧ Below w.heap.size w w' := by
 obtain ⟨A0, c0, A4, c4, A5, c5, A6, c6, rfl, l0, g0, l4, g4, l5, g5, l6, g6⟩ := k47_open hK
 have KX := Aside0.mk hK
 clear hK
 have L0 := Aside0.mk l0; have G0 := Aside0.mk g0; clear l0 g0
 have L4 := Aside0.mk l4; have G4 := Aside0.mk g4; clear l4 g4
 have L5 := Aside0.mk l5; have G5 := Aside0.mk g5; clear l5 g5
 have L6 := Aside0.mk l6; have G6 := Aside0.mk g6; clear l6 g6
 have HB := Aside0.mk (Below.refl w.heap.size w)
 have hu := Tryz.underlying47
 have hu2 := Tryz.underlying71
 have hu3 := Tryz.underlying42
 have hct := fun (gb : Nat) (W : World) (hB : Below w.heap.size w W) (hb : W.heap[gb]? = some (.cells #[.bool made] 71 (0, 0))) => item1_any made w W A6 c6 x.f1 (G6.out) gb hB hb
 have heq := fun (W : World) (hB : Below w.heap.size w W) => eq_calls made x.f0 W _ (Kd.K_below _ hB (k44_mk w x.f0 L0.out G0.out L4.out G4.out L5.out G5.out))
 have hz := fun (W : World) (hB : Below w.heap.size w W) => same0_calls x.f0.f1 _ W (Kd.K_below _ hB (k42_mk w x.f0.f1 L4.out G4.out L5.out G5.out))
 have hu4 := Tryz.underlying44
 have hu5 := Tryz.underlying65
 by_cases c0 : x.f1.length = 0
 · have e0 : ((x.f1.length : Int) == 0) = true := by rw [c0]; rfl
   have HF := Aside0.mk (show itemB made x = eqB made x.f0 from if_pos c0)
   clear c0 hct hz
   generalize eqB made x.f0 = a at heq HF
   go_enter Tryz.func73, Tryz.ntmps73
   go_wp2_with (first | ((with_reducible refine gate_dst (N := 2) rfl ?_); refine box_event ?hg (N := 2) ?hd (cs := #[.bool made]) (t := 71) ?hr ?_; (case hd => rfl); (case hg => rfl); (case hr => first | (go_simp; done) | (go_simp; rfl)); intro g2 hg_ w_ hbox hb; have B2 := Aside0.mk hbox; have LB2 := Aside0.mk ((by rw [hg_]; exact below_size HB.out) : w.heap.size ≤ g2); replace HB := Aside0.mk (below_step HB.out hb); clear hb hbox hg_) | ((with_reducible refine gate_dst (N := 3) rfl ?_); refine box_event ?hg (N := 3) ?hd (cs := #[.slice A0 (x.f0.f0).length c0, .int .i64 x.f0.f1.f0, .string x.f0.f1.f1, .int .i64 x.f0.f1.f2, .slice A4 (x.f0.f1.f3).length c4, .slice A5 (x.f0.f1.f4).length c5, .slice A6 (x.f1).length c6]) (t := 47) ?hr ?_; (case hd => rfl); (case hg => rfl); (case hr => first | (go_simp; done) | (go_simp; rfl)); intro g3 hg_ w_ hbox hb; replace B2 := Aside0.mk (below_blk B2.out hb); have B3 := Aside0.mk hbox; have LB3 := Aside0.mk ((by rw [hg_]; exact below_size HB.out) : w.heap.size ≤ g3); replace HB := Aside0.mk (below_step HB.out hb); clear hb hbox hg_; have cg2_0 := (blk_cell B2.out 0).trans rfl; have cg3_0 := (blk_cell B3.out 0).trans rfl; have cg3_1 := (blk_cell B3.out 1).trans rfl; have cg3_2 := (blk_cell B3.out 2).trans rfl; have cg3_3 := (blk_cell B3.out 3).trans rfl; have cg3_4 := (blk_cell B3.out 4).trans rfl; have cg3_5 := (blk_cell B3.out 5).trans rfl; have cg3_6 := (blk_cell B3.out 6).trans rfl))
   with_reducible refine (heq _ HB.out).mono ?_
   rintro e w3 ⟨rfl, hb⟩
   replace HB := Aside0.mk (below_step HB.out hb)
   clear hb
   go_wp2_with fail
   go_ret
   exact ⟨by rw [HF.out]; rfl, HB.out⟩
 have e0 : ((x.f1.length : Int) == 0) = false := beq_eq_false_iff_ne.2 (by omega)
 have HF := Aside0.mk (show itemB made x = ((((x.f0.f0.length : Int) == 0) && (zeroB x.f0.f1 && decide ((x.f1.length : Int) ≤ 8))) && !x.f1.any (fun k => !stateB made k)) from if_neg c0)
 clear c0 heq
 generalize zeroB x.f0.f1 = a at hz HF
 generalize x.f1.any (fun k => !stateB made k) = r at hct HF
 cases h1 : ((x.f0.f0.length : Int) == 0) with
 | false =>
   rw [h1] at HF
   go_enter Tryz.func73, Tryz.ntmps73
   go_wp2_with (first | ((with_reducible refine gate_dst (N := 2) rfl ?_); refine box_event ?hg (N := 2) ?hd (cs := #[.bool made]) (t := 71) ?hr ?_; (case hd => rfl); (case hg => rfl); (case hr => first | (go_simp; done) | (go_simp; rfl)); intro g2 hg_ w_ hbox hb; have B2 := Aside0.mk hbox; have LB2 := Aside0.mk ((by rw [hg_]; exact below_size HB.out) : w.heap.size ≤ g2); replace HB := Aside0.mk (below_step HB.out hb); clear hb hbox hg_) | ((with_reducible refine gate_dst (N := 3) rfl ?_); refine box_event ?hg (N := 3) ?hd (cs := #[.slice A0 (x.f0.f0).length c0, .int .i64 x.f0.f1.f0, .string x.f0.f1.f1, .int .i64 x.f0.f1.f2, .slice A4 (x.f0.f1.f3).length c4, .slice A5 (x.f0.f1.f4).length c5, .slice A6 (x.f1).length c6]) (t := 47) ?hr ?_; (case hd => rfl); (case hg => rfl); (case hr => first | (go_simp; done) | (go_simp; rfl)); intro g3 hg_ w_ hbox hb; replace B2 := Aside0.mk (below_blk B2.out hb); have B3 := Aside0.mk hbox; have LB3 := Aside0.mk ((by rw [hg_]; exact below_size HB.out) : w.heap.size ≤ g3); replace HB := Aside0.mk (below_step HB.out hb); clear hb hbox hg_; have cg2_0 := (blk_cell B2.out 0).trans rfl; have cg3_0 := (blk_cell B3.out 0).trans rfl; have cg3_1 := (blk_cell B3.out 1).trans rfl; have cg3_2 := (blk_cell B3.out 2).trans rfl; have cg3_3 := (blk_cell B3.out 3).trans rfl; have cg3_4 := (blk_cell B3.out 4).trans rfl; have cg3_5 := (blk_cell B3.out 5).trans rfl; have cg3_6 := (blk_cell B3.out 6).trans rfl))
   go_ret
   exact ⟨by rw [HF.out]; rfl, HB.out⟩
 | true =>
   rw [h1] at HF
   go_enter Tryz.func73, Tryz.ntmps73
   go_wp2_with (first | ((with_reducible refine gate_dst (N := 2) rfl ?_); refine box_event ?hg (N := 2) ?hd (cs := #[.bool made]) (t := 71) ?hr ?_; (case hd => rfl); (case hg => rfl); (case hr => first | (go_simp; done) | (go_simp; rfl)); intro g2 hg_ w_ hbox hb; have B2 := Aside0.mk hbox; have LB2 := Aside0.mk ((by rw [hg_]; exact below_size HB.out) : w.heap.size ≤ g2); replace HB := Aside0.mk (below_step HB.out hb); clear hb hbox hg_) | ((with_reducible refine gate_dst (N := 3) rfl ?_); refine box_event ?hg (N := 3) ?hd (cs := #[.slice A0 (x.f0.f0).length c0, .int .i64 x.f0.f1.f0, .string x.f0.f1.f1, .int .i64 x.f0.f1.f2, .slice A4 (x.f0.f1.f3).length c4, .slice A5 (x.f0.f1.f4).length c5, .slice A6 (x.f1).length c6]) (t := 47) ?hr ?_; (case hd => rfl); (case hg => rfl); (case hr => first | (go_simp; done) | (go_simp; rfl)); intro g3 hg_ w_ hbox hb; replace B2 := Aside0.mk (below_blk B2.out hb); have B3 := Aside0.mk hbox; have LB3 := Aside0.mk ((by rw [hg_]; exact below_size HB.out) : w.heap.size ≤ g3); replace HB := Aside0.mk (below_step HB.out hb); clear hb hbox hg_; have cg2_0 := (blk_cell B2.out 0).trans rfl; have cg3_0 := (blk_cell B3.out 0).trans rfl; have cg3_1 := (blk_cell B3.out 1).trans rfl; have cg3_2 := (blk_cell B3.out 2).trans rfl; have cg3_3 := (blk_cell B3.out 3).trans rfl; have cg3_4 := (blk_cell B3.out 4).trans rfl; have cg3_5 := (blk_cell B3.out 5).trans rfl; have cg3_6 := (blk_cell B3.out 6).trans rfl))
   with_reducible refine (hz _ HB.out).mono ?_
   rintro e w3 ⟨rfl, hb⟩
   replace B2 := Aside0.mk (below_blk B2.out hb)
   replace B3 := Aside0.mk (below_blk B3.out hb)
   replace HB := Aside0.mk (below_step HB.out hb)
   clear hb
   clear cg2_0
   clear cg3_0 cg3_1 cg3_2 cg3_3 cg3_4 cg3_5 cg3_6
   cases a with
   | false =>
     have cg2_0 := (blk_cell B2.out 0).trans rfl
     have cg3_0 := (blk_cell B3.out 0).trans rfl
     have cg3_1 := (blk_cell B3.out 1).trans rfl
     have cg3_2 := (blk_cell B3.out 2).trans rfl
     have cg3_3 := (blk_cell B3.out 3).trans rfl
     have cg3_4 := (blk_cell B3.out 4).trans rfl
     have cg3_5 := (blk_cell B3.out 5).trans rfl
     have cg3_6 := (blk_cell B3.out 6).trans rfl
     go_wp2_with fail
     go_ret
     exact ⟨by rw [HF.out]; rfl, HB.out⟩
   | true =>
     cases h2 : decide ((x.f1.length : Int) ≤ 8) with
     | false =>
       rw [h2] at HF
       have cg2_0 := (blk_cell B2.out 0).trans rfl
       have cg3_0 := (blk_cell B3.out 0).trans rfl
       have cg3_1 := (blk_cell B3.out 1).trans rfl
       have cg3_2 := (blk_cell B3.out 2).trans rfl
       have cg3_3 := (blk_cell B3.out 3).trans rfl
       have cg3_4 := (blk_cell B3.out 4).trans rfl
       have cg3_5 := (blk_cell B3.out 5).trans rfl
       have cg3_6 := (blk_cell B3.out 6).trans rfl
       go_wp2_with fail
       go_ret
       exact ⟨by rw [HF.out]; rfl, HB.out⟩
     | true =>
       rw [h2] at HF
       have cg2_0 := (blk_cell B2.out 0).trans rfl
       have cg3_0 := (blk_cell B3.out 0).trans rfl
       have cg3_1 := (blk_cell B3.out 1).trans rfl
       have cg3_2 := (blk_cell B3.out 2).trans rfl
       have cg3_3 := (blk_cell B3.out 3).trans rfl
       have cg3_4 := (blk_cell B3.out 4).trans rfl
       have cg3_5 := (blk_cell B3.out 5).trans rfl
       have cg3_6 := (blk_cell B3.out 6).trans rfl
       go_wp2_with fail
       with_reducible refine (hct _ _ HB.out B2.out).mono ?_
       rintro e w4 ⟨rfl, hb⟩
       replace HB := Aside0.mk (below_step HB.out hb)
       clear hb
       go_wp2_with fail
       go_ret
       exact ⟨by rw [HF.out]; cases r <;> rfl, HB.out⟩
def nodeB (made : Bool) (n : S35) : Bool := nameB made n.f0 && (allB n.f1 0 6 (nameB made) && (allB n.f2 1 6 (nameB made) && (allB n.f3 1 6 (nameB made) && ((made || decide ((n.f4.length : Int) ≤ 24)) && !n.f4.any (fun k => !itemB made k)))))
theorem node1_eg : ∀ args w, (callFunc 72 args).run Tryz.prog w = .ok (.enter 72 args) w := enters_of Tryz.func72 (by kernel_rfl) rfl
theorem node1_calls (made : Bool) (x : S47) (gb : Nat) (W : World) (cs : List Value) (hK : k47.K W x cs) (hb : W.heap[gb]? = some (.cells #[.bool made] 71 (0, 0))) :
   Calls Tryz.prog 72 #[.agg cs.toArray, .pointer (some ⟨gb, 0, none⟩)] W fun e w' => e = .returned (.bool (!itemB made x)) ∧ Below W.heap.size W w' := by
 have hcall := fun W' (h : Below W.heap.size W W') => item_calls made x W' cs (Kd.K_below _ h hK)
 obtain ⟨A0, c0, A4, c4, A5, c5, A6, c6, rfl, l0, g0, l4, g4, l5, g5, l6, g6⟩ := k47_open hK
 have h0 := fun o => (blk_cell (blk_alloc hb o) 0).trans rfl
 have hu := Tryz.underlying47
 have hu2 := Tryz.underlying71
 clear hb hK
 generalize itemB made x = b at hcall ⊢
 go_enter Tryz.func72, Tryz.ntmps72
 go_wp2_with fail
 refine (hcall _ (below_alloc (Below.refl _ _) _)).mono ?_; rintro e w1 ⟨rfl, hb1⟩
 go_wp2_with fail
 go_ret
 exact ⟨rfl, below_step (below_alloc (Below.refl _ _) _) hb1⟩
theorem node1_any (made : Bool) (w0 W : World) (A : Option Addr) (c : Nat) (xs : List S47) (hC : k47.C w0 A xs.length xs) (gb : Nat) (hB : Below w0.heap.size w0 W) (hb : W.heap[gb]? = some (.cells #[.bool made] 71 (0, 0))) :
   Calls Tryz.prog 71 #[.slice A xs.length c, .func (.func 72) #[] #[.pointer (some ⟨gb, 0, none⟩)]] W fun e w' => e = .returned (.bool (xs.any (fun k => !itemB made k))) ∧ Below W.heap.size W w' := by
 refine (ct_Item _ _ node1_eg w0 W A c xs hC (fun i => !itemB made (xs.getD i z47)) (fun _ W' => Below W.heap.size W W') (fun _ W' => Below W.heap.size W W') (fun _ W' h => below_step hB h) ?_ (Below.refl _ _)).mono ?_
 · intro i W' ds hi hI hKd
   refine (node1_calls made _ gb W' ds (Kd.K_below _ (below_step hB hI) hKd) (below_blk hb hI)).mono ?_
   rintro e w' ⟨rfl, hb'⟩
   exact ⟨rfl, fun _ => below_step hI hb', fun _ => below_step hI hb'⟩
 · intro e w' h
   exact CtPost.any (q := fun k => !itemB made k) (z := z47) (I := fun W' => Below W.heap.size W W') h
set_option maxHeartbeats 4000000 in
theorem node_calls (made : Bool) (n : S35) (w : World) (csx : List Value) (hK : k35.K w n csx) :
   Calls Tryz.prog 50 #[.agg #[.bool made], .agg csx.toArray] w fun e w' => e = .returned (.bool (nodeB made n)) ∧ Below w.heap.size w w' := by
 obtain ⟨A1, c1, A2, c2, A3, c3, A4, c4, rfl, l1, g1, l2, g2, l3, g3, l4, g4⟩ := k35_open hK
 have KX := Aside0.mk hK
 clear hK
 have L1 := Aside0.mk l1; have G1 := Aside0.mk g1; clear l1 g1
 have L2 := Aside0.mk l2; have G2 := Aside0.mk g2; clear l2 g2
 have L3 := Aside0.mk l3; have G3 := Aside0.mk g3; clear l3 g3
 have L4 := Aside0.mk l4; have G4 := Aside0.mk g4; clear l4 g4
 have HB := Aside0.mk (Below.refl w.heap.size w)
 have hu := Tryz.underlying35
 have hu2 := Tryz.underlying71
 have hu3 := Tryz.underlying42
 have hct := fun (gb : Nat) (W : World) (hB : Below w.heap.size w W) (hb : W.heap[gb]? = some (.cells #[.bool made] 71 (0, 0))) => node1_any made w W A4 c4 n.f4 (G4.out) gb hB hb
 have hname := fun W => name_calls made n.f0 W
 have ha1 := fun (W : World) (hB : Below w.heap.size w W) => all_calls W _ (nameB made) (name_fn W made) A1 c1 n.f1 (Kd.C_below G1.out hB) 0 6 W (Below.refl _ _)
 have ha2 := fun (W : World) (hB : Below w.heap.size w W) => all_calls W _ (nameB made) (name_fn W made) A2 c2 n.f2 (Kd.C_below G2.out hB) 1 6 W (Below.refl _ _)
 have ha3 := fun (W : World) (hB : Below w.heap.size w W) => all_calls W _ (nameB made) (name_fn W made) A3 c3 n.f3 (Kd.C_below G3.out hB) 1 6 W (Below.refl _ _)
 have hu4 := Tryz.underlying47
 have HF := Aside0.mk (show nodeB made n = (nameB made n.f0 && (allB n.f1 0 6 (nameB made) && (allB n.f2 1 6 (nameB made) && (allB n.f3 1 6 (nameB made) && ((made || decide ((n.f4.length : Int) ≤ 24)) && !n.f4.any (fun k => !itemB made k)))))) from rfl)
 generalize nameB made n.f0 = a at hname HF
 generalize allB n.f1 0 6 (nameB made) = b1 at ha1 HF
 generalize allB n.f2 1 6 (nameB made) = b2 at ha2 HF
 generalize allB n.f3 1 6 (nameB made) = b3 at ha3 HF
 generalize n.f4.any (fun k => !itemB made k) = r at hct HF
 go_enter Tryz.func50, Tryz.ntmps50
 go_wp2_with (first | ((with_reducible refine gate_dst (N := 2) rfl ?_); refine box_event ?hg (N := 2) ?hd (cs := #[.bool made]) (t := 71) ?hr ?_; (case hd => rfl); (case hg => rfl); (case hr => first | (go_simp; done) | (go_simp; rfl)); intro g2 hg_ w_ hbox hb; have B2 := Aside0.mk hbox; have LB2 := Aside0.mk ((by rw [hg_]; exact below_size HB.out) : w.heap.size ≤ g2); replace HB := Aside0.mk (below_step HB.out hb); clear hb hbox hg_) | ((with_reducible refine gate_dst (N := 3) rfl ?_); refine box_event ?hg (N := 3) ?hd (cs := #[.string n.f0, .slice A1 (n.f1).length c1, .slice A2 (n.f2).length c2, .slice A3 (n.f3).length c3, .slice A4 (n.f4).length c4]) (t := 35) ?hr ?_; (case hd => rfl); (case hg => rfl); (case hr => first | (go_simp; done) | (go_simp; rfl)); intro g3 hg_ w_ hbox hb; replace B2 := Aside0.mk (below_blk B2.out hb); have B3 := Aside0.mk hbox; have LB3 := Aside0.mk ((by rw [hg_]; exact below_size HB.out) : w.heap.size ≤ g3); replace HB := Aside0.mk (below_step HB.out hb); clear hb hbox hg_; have cg2_0 := (blk_cell B2.out 0).trans rfl; have cg3_0 := (blk_cell B3.out 0).trans rfl; have cg3_1 := (blk_cell B3.out 1).trans rfl; have cg3_2 := (blk_cell B3.out 2).trans rfl; have cg3_3 := (blk_cell B3.out 3).trans rfl; have cg3_4 := (blk_cell B3.out 4).trans rfl))
 with_reducible refine (hname _).mono ?_
 rintro e w3 ⟨rfl, hb⟩
 replace B2 := Aside0.mk (below_blk B2.out hb)
 replace B3 := Aside0.mk (below_blk B3.out hb)
 replace HB := Aside0.mk (below_step HB.out hb)
 clear hb
 clear cg2_0
 clear cg3_0 cg3_1 cg3_2 cg3_3 cg3_4
 cases a with
 | false =>
   have cg2_0 := (blk_cell B2.out 0).trans rfl
   have cg3_0 := (blk_cell B3.out 0).trans rfl
   have cg3_1 := (blk_cell B3.out 1).trans rfl
   have cg3_2 := (blk_cell B3.out 2).trans rfl
   have cg3_3 := (blk_cell B3.out 3).trans rfl
   have cg3_4 := (blk_cell B3.out 4).trans rfl
   go_wp2_with fail
   go_ret
   exact ⟨by rw [HF.out]; simp, HB.out⟩
 | true =>
 have cg2_0 := (blk_cell B2.out 0).trans rfl
 have cg3_0 := (blk_cell B3.out 0).trans rfl
 have cg3_1 := (blk_cell B3.out 1).trans rfl
 have cg3_2 := (blk_cell B3.out 2).trans rfl
 have cg3_3 := (blk_cell B3.out 3).trans rfl
 have cg3_4 := (blk_cell B3.out 4).trans rfl
 go_wp2_with fail
 with_reducible refine (ha1 _ HB.out).mono ?_
 rintro e w4 ⟨rfl, hb⟩
 replace B2 := Aside0.mk (below_blk B2.out hb)
 replace B3 := Aside0.mk (below_blk B3.out hb)
 replace HB := Aside0.mk (below_step HB.out hb)
 clear hb
 clear cg2_0
 clear cg3_0 cg3_1 cg3_2 cg3_3 cg3_4
 cases b1 with
 | false =>
   have cg2_0 := (blk_cell B2.out 0).trans rfl
   have cg3_0 := (blk_cell B3.out 0).trans rfl
   have cg3_1 := (blk_cell B3.out 1).trans rfl
   have cg3_2 := (blk_cell B3.out 2).trans rfl
   have cg3_3 := (blk_cell B3.out 3).trans rfl
   have cg3_4 := (blk_cell B3.out 4).trans rfl
   go_wp2_with fail
   go_ret
   exact ⟨by rw [HF.out]; simp, HB.out⟩
 | true =>
 have cg2_0 := (blk_cell B2.out 0).trans rfl
 have cg3_0 := (blk_cell B3.out 0).trans rfl
 have cg3_1 := (blk_cell B3.out 1).trans rfl
 have cg3_2 := (blk_cell B3.out 2).trans rfl
 have cg3_3 := (blk_cell B3.out 3).trans rfl
 have cg3_4 := (blk_cell B3.out 4).trans rfl
 go_wp2_with fail
 with_reducible refine (ha2 _ HB.out).mono ?_
 rintro e w5 ⟨rfl, hb⟩
 replace B2 := Aside0.mk (below_blk B2.out hb)
 replace B3 := Aside0.mk (below_blk B3.out hb)
 replace HB := Aside0.mk (below_step HB.out hb)
 clear hb
 clear cg2_0
 clear cg3_0 cg3_1 cg3_2 cg3_3 cg3_4
 cases b2 with
 | false =>
   have cg2_0 := (blk_cell B2.out 0).trans rfl
   have cg3_0 := (blk_cell B3.out 0).trans rfl
   have cg3_1 := (blk_cell B3.out 1).trans rfl
   have cg3_2 := (blk_cell B3.out 2).trans rfl
   have cg3_3 := (blk_cell B3.out 3).trans rfl
   have cg3_4 := (blk_cell B3.out 4).trans rfl
   go_wp2_with fail
   go_ret
   exact ⟨by rw [HF.out]; simp, HB.out⟩
 | true =>
 have cg2_0 := (blk_cell B2.out 0).trans rfl
 have cg3_0 := (blk_cell B3.out 0).trans rfl
 have cg3_1 := (blk_cell B3.out 1).trans rfl
 have cg3_2 := (blk_cell B3.out 2).trans rfl
 have cg3_3 := (blk_cell B3.out 3).trans rfl
 have cg3_4 := (blk_cell B3.out 4).trans rfl
 go_wp2_with fail
 with_reducible refine (ha3 _ HB.out).mono ?_
 rintro e w6 ⟨rfl, hb⟩
 replace B2 := Aside0.mk (below_blk B2.out hb)
 replace B3 := Aside0.mk (below_blk B3.out hb)
 replace HB := Aside0.mk (below_step HB.out hb)
 clear hb
 clear cg2_0
 clear cg3_0 cg3_1 cg3_2 cg3_3 cg3_4
 cases b3 with
 | false =>
   have cg2_0 := (blk_cell B2.out 0).trans rfl
   have cg3_0 := (blk_cell B3.out 0).trans rfl
   have cg3_1 := (blk_cell B3.out 1).trans rfl
   have cg3_2 := (blk_cell B3.out 2).trans rfl
   have cg3_3 := (blk_cell B3.out 3).trans rfl
   have cg3_4 := (blk_cell B3.out 4).trans rfl
   go_wp2_with fail
   go_ret
   exact ⟨by rw [HF.out]; simp, HB.out⟩
 | true =>
 cases hm : made with
 | true =>
   rw [hm] at hct B2
   have HM := Aside0.mk hm; clear hm
   have cg2_0 := (blk_cell B2.out 0).trans rfl
   have cg3_0 := (blk_cell B3.out 0).trans rfl
   have cg3_1 := (blk_cell B3.out 1).trans rfl
   have cg3_2 := (blk_cell B3.out 2).trans rfl
   have cg3_3 := (blk_cell B3.out 3).trans rfl
   have cg3_4 := (blk_cell B3.out 4).trans rfl
   go_wp2_with fail
   with_reducible refine (hct _ _ HB.out B2.out).mono ?_
   rintro e w7 ⟨rfl, hb⟩
   replace HB := Aside0.mk (below_step HB.out hb)
   clear hb
   go_wp2_with fail
   go_ret
   exact ⟨by rw [HF.out, HM.out]; cases r <;> rfl, HB.out⟩
 | false =>
   rw [hm] at hct B2
   have HM := Aside0.mk hm; clear hm
   cases h2 : decide ((n.f4.length : Int) ≤ 24) with
   | false =>
     have H2 := Aside0.mk h2
     have cg2_0 := (blk_cell B2.out 0).trans rfl
     have cg3_0 := (blk_cell B3.out 0).trans rfl
     have cg3_1 := (blk_cell B3.out 1).trans rfl
     have cg3_2 := (blk_cell B3.out 2).trans rfl
     have cg3_3 := (blk_cell B3.out 3).trans rfl
     have cg3_4 := (blk_cell B3.out 4).trans rfl
     go_wp2_with fail
     go_ret
     exact ⟨by rw [HF.out, HM.out, H2.out]; rfl, HB.out⟩
   | true =>
     have H2 := Aside0.mk h2
     have cg2_0 := (blk_cell B2.out 0).trans rfl
     have cg3_0 := (blk_cell B3.out 0).trans rfl
     have cg3_1 := (blk_cell B3.out 1).trans rfl
     have cg3_2 := (blk_cell B3.out 2).trans rfl
     have cg3_3 := (blk_cell B3.out 3).trans rfl
     have cg3_4 := (blk_cell B3.out 4).trans rfl
     go_wp2_with fail
     with_reducible refine (hct _ _ HB.out B2.out).mono ?_
     rintro e w7 ⟨rfl, hb⟩
     replace HB := Aside0.mk (below_step HB.out hb)
     clear hb
     go_wp2_with fail
     go_ret
     exact ⟨by rw [HF.out, HM.out, H2.out]; cases r <;> rfl, HB.out⟩
def enumB (made : Bool) (t : S38) : Bool := nameB made t.f0 && allB t.f1 1 8 (conB made)
def mostI (made : Bool) : Int := if made then 32 else 8
def programB (made : Bool) (es : List S38) (ns : List S35) : Bool := decide ((es.length : Int) ≤ mostI made) && (!((ns.length : Int) == 0) && (decide ((ns.length : Int) ≤ 16) && (es.all (enumB made) && !ns.any (fun k => !nodeB made k))))
theorem prog1_eg : ∀ args w, (callFunc 49 args).run Tryz.prog w = .ok (.enter 49 args) w := enters_of Tryz.func49 (by kernel_rfl) rfl
theorem prog1_calls (made : Bool) (x : S35) (gb : Nat) (W : World) (cs : List Value) (hK : k35.K W x cs) (hb : W.heap[gb]? = some (.cells #[.bool made] 71 (0, 0))) :
   Calls Tryz.prog 49 #[.agg cs.toArray, .pointer (some ⟨gb, 0, none⟩)] W fun e w' => e = .returned (.bool (!nodeB made x)) ∧ Below W.heap.size W w' := by
 have hcall := fun W' (h : Below W.heap.size W W') => node_calls made x W' cs (Kd.K_below _ h hK)
 obtain ⟨A1, c1, A2, c2, A3, c3, A4, c4, rfl, l1, g1, l2, g2, l3, g3, l4, g4⟩ := k35_open hK
 have h0 := fun o => (blk_cell (blk_alloc hb o) 0).trans rfl
 have hu := Tryz.underlying35
 have hu2 := Tryz.underlying71
 clear hb hK
 generalize nodeB made x = b at hcall ⊢
 go_enter Tryz.func49, Tryz.ntmps49
 go_wp2_with fail
 refine (hcall _ (below_alloc (Below.refl _ _) _)).mono ?_; rintro e w1 ⟨rfl, hb1⟩
 go_wp2_with fail
 go_ret
 exact ⟨rfl, below_step (below_alloc (Below.refl _ _) _) hb1⟩
theorem prog1_any (made : Bool) (w0 W : World) (A : Option Addr) (c : Nat) (xs : List S35) (hC : k35.C w0 A xs.length xs) (gb : Nat) (hB : Below w0.heap.size w0 W) (hb : W.heap[gb]? = some (.cells #[.bool made] 71 (0, 0))) :
   Calls Tryz.prog 48 #[.slice A xs.length c, .func (.func 49) #[] #[.pointer (some ⟨gb, 0, none⟩)]] W fun e w' => e = .returned (.bool (xs.any (fun k => !nodeB made k))) ∧ Below W.heap.size W w' := by
 refine (ct_Node _ _ prog1_eg w0 W A c xs hC (fun i => !nodeB made (xs.getD i z35)) (fun _ W' => Below W.heap.size W W') (fun _ W' => Below W.heap.size W W') (fun _ W' h => below_step hB h) ?_ (Below.refl _ _)).mono ?_
 · intro i W' ds hi hI hKd
   refine (prog1_calls made _ gb W' ds (Kd.K_below _ (below_step hB hI) hKd) (below_blk hb hI)).mono ?_
   rintro e w' ⟨rfl, hb'⟩
   exact ⟨rfl, fun _ => below_step hI hb', fun _ => below_step hI hb'⟩
 · intro e w' h
   exact CtPost.any (q := fun k => !nodeB made k) (z := z35) (I := fun W' => Below W.heap.size W W') h
set_option maxHeartbeats 8000000 in
theorem program_true (es : List S38) (ns : List S35) (Ae An : Option Addr) (ce cn : Nat) (w : World) (he : k38.C w Ae es.length es) (hn : k35.C w An ns.length ns) :
   Calls Tryz.prog 24 #[.agg #[.bool true], .agg #[.slice Ae es.length ce, .slice An ns.length cn]] w fun e w' => e = .returned (.bool (programB true es ns)) ∧ Below w.heap.size w w' := by
 have HE := Aside0.mk he
 have HN := Aside0.mk hn
 clear he hn
 have HB := Aside0.mk (Below.refl w.heap.size w)
 have hu := Tryz.underlying25
 have hu2 := Tryz.underlying71
 have hu3 := Tryz.underlying38
 have hu4 := Tryz.underlying35
 have hct := fun (gb : Nat) (W : World) (hB : Below w.heap.size w W) (hb : W.heap[gb]? = some (.cells #[.bool true] 71 (0, 0))) => prog1_any true w W An cn ns HN.out gb hB hb
 have HF := Aside0.mk (show programB true es ns = (decide ((es.length : Int) ≤ 32) && (!((ns.length : Int) == 0) && (decide ((ns.length : Int) ≤ 16) && (es.all (enumB true) && !ns.any (fun k => !nodeB true k))))) from rfl)
 generalize ns.any (fun k => !nodeB true k) = r at hct HF
 by_cases k1 : (es.length : Int) ≤ 32
 rotate_left
 · have d1 : decide ((es.length : Int) > 32) = true := decide_eq_true (by omega)
   have D1 := Aside0.mk (decide_eq_false k1); clear k1
   go_enter Tryz.func24, Tryz.ntmps24
   go_wp2_with (first | ((with_reducible refine gate_dst (N := 2) rfl ?_); refine box_event ?hg (N := 2) ?hd (cs := #[.bool true]) (t := 71) ?hr ?_; (case hd => rfl); (case hg => rfl); (case hr => first | (go_simp; done) | (go_simp; rfl)); intro g2 hg_ w_ hbox hb; have B2 := Aside0.mk hbox; have LB2 := Aside0.mk ((by rw [hg_]; exact below_size HB.out) : w.heap.size ≤ g2); replace HB := Aside0.mk (below_step HB.out hb); clear hb hbox hg_) | ((with_reducible refine gate_dst (N := 3) rfl ?_); refine box_event ?hg (N := 3) ?hd (cs := #[.slice Ae es.length ce, .slice An ns.length cn]) (t := 25) ?hr ?_; (case hd => rfl); (case hg => rfl); (case hr => first | (go_simp; done) | (go_simp; rfl)); intro g3 hg_ w_ hbox hb; replace B2 := Aside0.mk (below_blk B2.out hb); have B3 := Aside0.mk hbox; have LB3 := Aside0.mk ((by rw [hg_]; exact below_size HB.out) : w.heap.size ≤ g3); replace HB := Aside0.mk (below_step HB.out hb); clear hb hbox hg_; have cg2_0 := (blk_cell B2.out 0).trans rfl; have cg3_0 := (blk_cell B3.out 0).trans rfl; have cg3_1 := (blk_cell B3.out 1).trans rfl))
   go_ret
   exact ⟨by rw [HF.out, D1.out]; simp, HB.out⟩
 have d1 : decide ((es.length : Int) > 32) = false := decide_eq_false (by omega)
 have D1 := Aside0.mk (decide_eq_true k1); clear k1
 rw [D1.out, Bool.true_and] at HF
 cases k2 : ((ns.length : Int) == 0) with
 | true =>
   have D2 := Aside0.mk k2
   go_enter Tryz.func24, Tryz.ntmps24
   go_wp2_with (first | ((with_reducible refine gate_dst (N := 2) rfl ?_); refine box_event ?hg (N := 2) ?hd (cs := #[.bool true]) (t := 71) ?hr ?_; (case hd => rfl); (case hg => rfl); (case hr => first | (go_simp; done) | (go_simp; rfl)); intro g2 hg_ w_ hbox hb; have B2 := Aside0.mk hbox; have LB2 := Aside0.mk ((by rw [hg_]; exact below_size HB.out) : w.heap.size ≤ g2); replace HB := Aside0.mk (below_step HB.out hb); clear hb hbox hg_) | ((with_reducible refine gate_dst (N := 3) rfl ?_); refine box_event ?hg (N := 3) ?hd (cs := #[.slice Ae es.length ce, .slice An ns.length cn]) (t := 25) ?hr ?_; (case hd => rfl); (case hg => rfl); (case hr => first | (go_simp; done) | (go_simp; rfl)); intro g3 hg_ w_ hbox hb; replace B2 := Aside0.mk (below_blk B2.out hb); have B3 := Aside0.mk hbox; have LB3 := Aside0.mk ((by rw [hg_]; exact below_size HB.out) : w.heap.size ≤ g3); replace HB := Aside0.mk (below_step HB.out hb); clear hb hbox hg_; have cg2_0 := (blk_cell B2.out 0).trans rfl; have cg3_0 := (blk_cell B3.out 0).trans rfl; have cg3_1 := (blk_cell B3.out 1).trans rfl))
   go_ret
   exact ⟨by rw [HF.out, D2.out]; simp, HB.out⟩
 | false =>
 rw [k2, Bool.not_false, Bool.true_and] at HF
 by_cases k3 : (ns.length : Int) ≤ 16
 rotate_left
 · have d3 : decide ((ns.length : Int) > 16) = true := decide_eq_true (by omega)
   have D3 := Aside0.mk (decide_eq_false k3); clear k3
   go_enter Tryz.func24, Tryz.ntmps24
   go_wp2_with (first | ((with_reducible refine gate_dst (N := 2) rfl ?_); refine box_event ?hg (N := 2) ?hd (cs := #[.bool true]) (t := 71) ?hr ?_; (case hd => rfl); (case hg => rfl); (case hr => first | (go_simp; done) | (go_simp; rfl)); intro g2 hg_ w_ hbox hb; have B2 := Aside0.mk hbox; have LB2 := Aside0.mk ((by rw [hg_]; exact below_size HB.out) : w.heap.size ≤ g2); replace HB := Aside0.mk (below_step HB.out hb); clear hb hbox hg_) | ((with_reducible refine gate_dst (N := 3) rfl ?_); refine box_event ?hg (N := 3) ?hd (cs := #[.slice Ae es.length ce, .slice An ns.length cn]) (t := 25) ?hr ?_; (case hd => rfl); (case hg => rfl); (case hr => first | (go_simp; done) | (go_simp; rfl)); intro g3 hg_ w_ hbox hb; replace B2 := Aside0.mk (below_blk B2.out hb); have B3 := Aside0.mk hbox; have LB3 := Aside0.mk ((by rw [hg_]; exact below_size HB.out) : w.heap.size ≤ g3); replace HB := Aside0.mk (below_step HB.out hb); clear hb hbox hg_; have cg2_0 := (blk_cell B2.out 0).trans rfl; have cg3_0 := (blk_cell B3.out 0).trans rfl; have cg3_1 := (blk_cell B3.out 1).trans rfl))
   go_ret
   exact ⟨by rw [HF.out, D3.out]; simp, HB.out⟩
 have d3 : decide ((ns.length : Int) > 16) = false := decide_eq_false (by omega)
 have D3 := Aside0.mk (decide_eq_true k3); clear k3
 rw [D3.out, Bool.true_and] at HF
 go_enter Tryz.func24, Tryz.ntmps24
 go_wp2_with (first | ((with_reducible refine gate_dst (N := 2) rfl ?_); refine box_event ?hg (N := 2) ?hd (cs := #[.bool true]) (t := 71) ?hr ?_; (case hd => rfl); (case hg => rfl); (case hr => first | (go_simp; done) | (go_simp; rfl)); intro g2 hg_ w_ hbox hb; have B2 := Aside0.mk hbox; have LB2 := Aside0.mk ((by rw [hg_]; exact below_size HB.out) : w.heap.size ≤ g2); replace HB := Aside0.mk (below_step HB.out hb); clear hb hbox hg_) | ((with_reducible refine gate_dst (N := 3) rfl ?_); refine box_event ?hg (N := 3) ?hd (cs := #[.slice Ae es.length ce, .slice An ns.length cn]) (t := 25) ?hr ?_; (case hd => rfl); (case hg => rfl); (case hr => first | (go_simp; done) | (go_simp; rfl)); intro g3 hg_ w_ hbox hb; replace B2 := Aside0.mk (below_blk B2.out hb); have B3 := Aside0.mk hbox; have LB3 := Aside0.mk ((by rw [hg_]; exact below_size HB.out) : w.heap.size ≤ g3); replace HB := Aside0.mk (below_step HB.out hb); clear hb hbox hg_; have cg2_0 := (blk_cell B2.out 0).trans rfl; have cg3_0 := (blk_cell B3.out 0).trans rfl; have cg3_1 := (blk_cell B3.out 1).trans rfl))
 clear cg2_0
 clear cg3_0 cg3_1
 go_loopg [32] es.length (fun gg s_ wr => ∃ kk : Nat, kk ≤ es.length ∧ es.length - kk ≤ gg ∧ s_ = .int .i64 kk ∧ Aside0 (Below w.heap.size w wr) ∧ Aside0 (wr.heap[g2]? = some (.cells #[.bool true] 71 (0, 0))) ∧ Aside0 (wr.heap[g3]? = some (.cells #[.slice Ae es.length ce, .slice An ns.length cn] 25 (0, 0))) ∧ Aside0 (∀ j, j < kk → enumB true (es.getD j z38) = true))
 case atStart => exact ⟨0, Nat.zero_le _, by omega, rfl, HB, B2, B3, ⟨fun j hj => absurd hj (Nat.not_lt_zero _)⟩⟩
 case round =>
   clear HB B2 B3
   obtain ⟨kk, hkk, hg, rfl, HB, B2, B3, N⟩ := hrel
   have hmx : es.length ≤ 9223372036854775807 := (HE.out).2.1
   by_cases hlt : kk < es.length
   · have hltz : (kk : Int) < (es.length : Int) := by omega
     obtain ⟨ead, ecs, rfl, _, eK, ecc⟩ := Kd.C_get HE.out z38 (kk : Int) (by omega) (by omega)
     have eK' := eK
     obtain ⟨eA1, ec1, rfl, el1, eg1⟩ := k38_open eK'
     have ex0 := (HB.out.cell (World.block_lt_of_cell? w _ (ecc 0 _ rfl))).trans (ecc 0 _ rfl)
     have ex1 := (HB.out.cell (World.block_lt_of_cell? w _ (ecc 1 _ rfl))).trans (ecc 1 _ rfl)
     rw [show (k38).sz = 2 from rfl, Nat.add_zero, Int.toNat_natCast] at ex0
     rw [show (k38).sz = 2 from rfl, Int.toNat_natCast, add_field _ _ 1 (by omega)] at ex1
     clear ecc
     try simp only [Int.toNat_natCast] at ex0 ex1 eK el1 eg1
     generalize Yy0 : es.getD kk z38 = y at ex0 ex1 eK el1 eg1
     have Yy := Aside0.mk Yy0; clear Yy0
     have eL1 := Aside0.mk el1; have eG1 := Aside0.mk eg1; clear el1 eg1
     have hname := fun W => name_calls true y.f0 W
     have hall := fun (W : World) (hB : Below w.heap.size w W) => all_calls W _ (conB true) (con_fn W true) eA1 ec1 y.f1 (Kd.C_below eG1.out hB) 1 8 W (Below.refl _ _)
     have HQ := Aside0.mk (show enumB true y = (nameB true y.f0 && allB y.f1 1 8 (conB true)) from rfl)
     generalize nameB true y.f0 = a at hname HQ
     generalize allB y.f1 1 8 (conB true) = b at hall HQ
     go_wp2_with ((with_reducible refine gate_store (t := 38) (p := 7) rfl ?_); refine store_whole rfl rfl 38 _ _ rfl wr.heap.size _ 38 rfl (blk_new _ _) _ rfl rfl rfl (by simp [Value.oneCell']) ?_; intro w2 hb2 hg2; replace B2 := Aside0.mk (blk_as B2.out hg2); replace B3 := Aside0.mk (blk_as B3.out hg2); replace HB := Aside0.mk (below_as HB.out hg2); obtain ⟨ge, hq_⟩ : ∃ g_, g_ = wr.heap.size := ⟨_, rfl⟩; rw [← hq_] at hb2; rw [← hq_]; have BE := Aside0.mk hb2; clear hb2 hg2 hq_; have cg2_0 := (blk_cell B2.out 0).trans rfl; have cg3_0 := (blk_cell B3.out 0).trans rfl; have cg3_1 := (blk_cell B3.out 1).trans rfl; have ce_0 := (blk_cell BE.out 0).trans rfl; have ce_1 := (blk_cell BE.out 1).trans rfl)
     with_reducible refine (hname _).mono ?_
     rintro e w5 ⟨rfl, hb⟩
     replace B2 := Aside0.mk (below_blk B2.out hb)
     replace B3 := Aside0.mk (below_blk B3.out hb)
     replace BE := Aside0.mk (below_blk BE.out hb)
     replace HB := Aside0.mk (below_step HB.out hb)
     clear hb
     clear cg2_0
     clear cg3_0 cg3_1
     clear ce_0 ce_1
     cases a with
     | false =>
       have cg2_0 := (blk_cell B2.out 0).trans rfl
       have cg3_0 := (blk_cell B3.out 0).trans rfl
       have cg3_1 := (blk_cell B3.out 1).trans rfl
       have ce_0 := (blk_cell BE.out 0).trans rfl
       have ce_1 := (blk_cell BE.out 1).trans rfl
       go_wp2_with fail
       go_ret
       exact ⟨by rw [HF.out, all_getD_no es (enumB true) z38 kk hlt (by rw [Yy.out, HQ.out]; simp)]; rfl, HB.out⟩
     | true =>
     have cg2_0 := (blk_cell B2.out 0).trans rfl
     have cg3_0 := (blk_cell B3.out 0).trans rfl
     have cg3_1 := (blk_cell B3.out 1).trans rfl
     have ce_0 := (blk_cell BE.out 0).trans rfl
     have ce_1 := (blk_cell BE.out 1).trans rfl
     go_wp2_with fail
     with_reducible refine (hall _ HB.out).mono ?_
     rintro e w6 ⟨rfl, hb⟩
     replace B2 := Aside0.mk (below_blk B2.out hb)
     replace B3 := Aside0.mk (below_blk B3.out hb)
     replace BE := Aside0.mk (below_blk BE.out hb)
     replace HB := Aside0.mk (below_step HB.out hb)
     clear hb
     clear cg2_0
     clear cg3_0 cg3_1
     clear ce_0 ce_1
     cases b with
     | false =>
       have cg2_0 := (blk_cell B2.out 0).trans rfl
       have cg3_0 := (blk_cell B3.out 0).trans rfl
       have cg3_1 := (blk_cell B3.out 1).trans rfl
       have ce_0 := (blk_cell BE.out 0).trans rfl
       have ce_1 := (blk_cell BE.out 1).trans rfl
       go_wp2_with fail
       go_ret
       exact ⟨by rw [HF.out, all_getD_no es (enumB true) z38 kk hlt (by rw [Yy.out, HQ.out]; simp)]; rfl, HB.out⟩
     | true =>
     have cg2_0 := (blk_cell B2.out 0).trans rfl
     have cg3_0 := (blk_cell B3.out 0).trans rfl
     have cg3_1 := (blk_cell B3.out 1).trans rfl
     have ce_0 := (blk_cell BE.out 0).trans rfl
     have ce_1 := (blk_cell BE.out 1).trans rfl
     go_wp2_with fail
     go_roundg (es.length - (kk + 1))
     case measure => omega
     case rel =>
       refine ⟨kk + 1, by omega, by omega, by go_num, HB, B2, B3, ⟨fun j hj => ?_⟩⟩
       by_cases e : j = kk
       · subst e; rw [Yy.out]; exact HQ.out
       · exact N.out j (by omega)
   · have hltz : ¬ (kk : Int) < (es.length : Int) := by omega
     obtain rfl : kk = es.length := by omega
     have ALL := Aside0.mk (all_getD _ _ _ N.out)
     clear N hg hkk
     have cg2_0 := (blk_cell B2.out 0).trans rfl
     have cg3_0 := (blk_cell B3.out 0).trans rfl
     have cg3_1 := (blk_cell B3.out 1).trans rfl
     go_wp2_with fail
     with_reducible refine (hct _ _ HB.out B2.out).mono ?_
     rintro e w9 ⟨rfl, hb⟩
     replace HB := Aside0.mk (below_step HB.out hb)
     clear hb
     go_wp2_with fail
     go_ret
     exact ⟨by rw [HF.out, ALL.out]; cases r <;> rfl, HB.out⟩
set_option maxHeartbeats 8000000 in
theorem program_false (es : List S38) (ns : List S35) (Ae An : Option Addr) (ce cn : Nat) (w : World) (he : k38.C w Ae es.length es) (hn : k35.C w An ns.length ns) :
   Calls Tryz.prog 24 #[.agg #[.bool false], .agg #[.slice Ae es.length ce, .slice An ns.length cn]] w fun e w' => e = .returned (.bool (programB false es ns)) ∧ Below w.heap.size w w' := by
 have HE := Aside0.mk he
 have HN := Aside0.mk hn
 clear he hn
 have HB := Aside0.mk (Below.refl w.heap.size w)
 have hu := Tryz.underlying25
 have hu2 := Tryz.underlying71
 have hu3 := Tryz.underlying38
 have hu4 := Tryz.underlying35
 have hct := fun (gb : Nat) (W : World) (hB : Below w.heap.size w W) (hb : W.heap[gb]? = some (.cells #[.bool false] 71 (0, 0))) => prog1_any false w W An cn ns HN.out gb hB hb
 have HF := Aside0.mk (show programB false es ns = (decide ((es.length : Int) ≤ 8) && (!((ns.length : Int) == 0) && (decide ((ns.length : Int) ≤ 16) && (es.all (enumB false) && !ns.any (fun k => !nodeB false k))))) from rfl)
 generalize ns.any (fun k => !nodeB false k) = r at hct HF
 by_cases k1 : (es.length : Int) ≤ 8
 rotate_left
 · have d1 : decide ((es.length : Int) > 8) = true := decide_eq_true (by omega)
   have D1 := Aside0.mk (decide_eq_false k1); clear k1
   go_enter Tryz.func24, Tryz.ntmps24
   go_wp2_with (first | ((with_reducible refine gate_dst (N := 2) rfl ?_); refine box_event ?hg (N := 2) ?hd (cs := #[.bool false]) (t := 71) ?hr ?_; (case hd => rfl); (case hg => rfl); (case hr => first | (go_simp; done) | (go_simp; rfl)); intro g2 hg_ w_ hbox hb; have B2 := Aside0.mk hbox; have LB2 := Aside0.mk ((by rw [hg_]; exact below_size HB.out) : w.heap.size ≤ g2); replace HB := Aside0.mk (below_step HB.out hb); clear hb hbox hg_) | ((with_reducible refine gate_dst (N := 3) rfl ?_); refine box_event ?hg (N := 3) ?hd (cs := #[.slice Ae es.length ce, .slice An ns.length cn]) (t := 25) ?hr ?_; (case hd => rfl); (case hg => rfl); (case hr => first | (go_simp; done) | (go_simp; rfl)); intro g3 hg_ w_ hbox hb; replace B2 := Aside0.mk (below_blk B2.out hb); have B3 := Aside0.mk hbox; have LB3 := Aside0.mk ((by rw [hg_]; exact below_size HB.out) : w.heap.size ≤ g3); replace HB := Aside0.mk (below_step HB.out hb); clear hb hbox hg_; have cg2_0 := (blk_cell B2.out 0).trans rfl; have cg3_0 := (blk_cell B3.out 0).trans rfl; have cg3_1 := (blk_cell B3.out 1).trans rfl))
   go_ret
   exact ⟨by rw [HF.out, D1.out]; simp, HB.out⟩
 have d1 : decide ((es.length : Int) > 8) = false := decide_eq_false (by omega)
 have D1 := Aside0.mk (decide_eq_true k1); clear k1
 rw [D1.out, Bool.true_and] at HF
 cases k2 : ((ns.length : Int) == 0) with
 | true =>
   have D2 := Aside0.mk k2
   go_enter Tryz.func24, Tryz.ntmps24
   go_wp2_with (first | ((with_reducible refine gate_dst (N := 2) rfl ?_); refine box_event ?hg (N := 2) ?hd (cs := #[.bool false]) (t := 71) ?hr ?_; (case hd => rfl); (case hg => rfl); (case hr => first | (go_simp; done) | (go_simp; rfl)); intro g2 hg_ w_ hbox hb; have B2 := Aside0.mk hbox; have LB2 := Aside0.mk ((by rw [hg_]; exact below_size HB.out) : w.heap.size ≤ g2); replace HB := Aside0.mk (below_step HB.out hb); clear hb hbox hg_) | ((with_reducible refine gate_dst (N := 3) rfl ?_); refine box_event ?hg (N := 3) ?hd (cs := #[.slice Ae es.length ce, .slice An ns.length cn]) (t := 25) ?hr ?_; (case hd => rfl); (case hg => rfl); (case hr => first | (go_simp; done) | (go_simp; rfl)); intro g3 hg_ w_ hbox hb; replace B2 := Aside0.mk (below_blk B2.out hb); have B3 := Aside0.mk hbox; have LB3 := Aside0.mk ((by rw [hg_]; exact below_size HB.out) : w.heap.size ≤ g3); replace HB := Aside0.mk (below_step HB.out hb); clear hb hbox hg_; have cg2_0 := (blk_cell B2.out 0).trans rfl; have cg3_0 := (blk_cell B3.out 0).trans rfl; have cg3_1 := (blk_cell B3.out 1).trans rfl))
   go_ret
   exact ⟨by rw [HF.out, D2.out]; simp, HB.out⟩
 | false =>
 rw [k2, Bool.not_false, Bool.true_and] at HF
 by_cases k3 : (ns.length : Int) ≤ 16
 rotate_left
 · have d3 : decide ((ns.length : Int) > 16) = true := decide_eq_true (by omega)
   have D3 := Aside0.mk (decide_eq_false k3); clear k3
   go_enter Tryz.func24, Tryz.ntmps24
   go_wp2_with (first | ((with_reducible refine gate_dst (N := 2) rfl ?_); refine box_event ?hg (N := 2) ?hd (cs := #[.bool false]) (t := 71) ?hr ?_; (case hd => rfl); (case hg => rfl); (case hr => first | (go_simp; done) | (go_simp; rfl)); intro g2 hg_ w_ hbox hb; have B2 := Aside0.mk hbox; have LB2 := Aside0.mk ((by rw [hg_]; exact below_size HB.out) : w.heap.size ≤ g2); replace HB := Aside0.mk (below_step HB.out hb); clear hb hbox hg_) | ((with_reducible refine gate_dst (N := 3) rfl ?_); refine box_event ?hg (N := 3) ?hd (cs := #[.slice Ae es.length ce, .slice An ns.length cn]) (t := 25) ?hr ?_; (case hd => rfl); (case hg => rfl); (case hr => first | (go_simp; done) | (go_simp; rfl)); intro g3 hg_ w_ hbox hb; replace B2 := Aside0.mk (below_blk B2.out hb); have B3 := Aside0.mk hbox; have LB3 := Aside0.mk ((by rw [hg_]; exact below_size HB.out) : w.heap.size ≤ g3); replace HB := Aside0.mk (below_step HB.out hb); clear hb hbox hg_; have cg2_0 := (blk_cell B2.out 0).trans rfl; have cg3_0 := (blk_cell B3.out 0).trans rfl; have cg3_1 := (blk_cell B3.out 1).trans rfl))
   go_ret
   exact ⟨by rw [HF.out, D3.out]; simp, HB.out⟩
 have d3 : decide ((ns.length : Int) > 16) = false := decide_eq_false (by omega)
 have D3 := Aside0.mk (decide_eq_true k3); clear k3
 rw [D3.out, Bool.true_and] at HF
 go_enter Tryz.func24, Tryz.ntmps24
 go_wp2_with (first | ((with_reducible refine gate_dst (N := 2) rfl ?_); refine box_event ?hg (N := 2) ?hd (cs := #[.bool false]) (t := 71) ?hr ?_; (case hd => rfl); (case hg => rfl); (case hr => first | (go_simp; done) | (go_simp; rfl)); intro g2 hg_ w_ hbox hb; have B2 := Aside0.mk hbox; have LB2 := Aside0.mk ((by rw [hg_]; exact below_size HB.out) : w.heap.size ≤ g2); replace HB := Aside0.mk (below_step HB.out hb); clear hb hbox hg_) | ((with_reducible refine gate_dst (N := 3) rfl ?_); refine box_event ?hg (N := 3) ?hd (cs := #[.slice Ae es.length ce, .slice An ns.length cn]) (t := 25) ?hr ?_; (case hd => rfl); (case hg => rfl); (case hr => first | (go_simp; done) | (go_simp; rfl)); intro g3 hg_ w_ hbox hb; replace B2 := Aside0.mk (below_blk B2.out hb); have B3 := Aside0.mk hbox; have LB3 := Aside0.mk ((by rw [hg_]; exact below_size HB.out) : w.heap.size ≤ g3); replace HB := Aside0.mk (below_step HB.out hb); clear hb hbox hg_; have cg2_0 := (blk_cell B2.out 0).trans rfl; have cg3_0 := (blk_cell B3.out 0).trans rfl; have cg3_1 := (blk_cell B3.out 1).trans rfl))
 clear cg2_0
 clear cg3_0 cg3_1
 go_loopg [32] es.length (fun gg s_ wr => ∃ kk : Nat, kk ≤ es.length ∧ es.length - kk ≤ gg ∧ s_ = .int .i64 kk ∧ Aside0 (Below w.heap.size w wr) ∧ Aside0 (wr.heap[g2]? = some (.cells #[.bool false] 71 (0, 0))) ∧ Aside0 (wr.heap[g3]? = some (.cells #[.slice Ae es.length ce, .slice An ns.length cn] 25 (0, 0))) ∧ Aside0 (∀ j, j < kk → enumB false (es.getD j z38) = true))
 case atStart => exact ⟨0, Nat.zero_le _, by omega, rfl, HB, B2, B3, ⟨fun j hj => absurd hj (Nat.not_lt_zero _)⟩⟩
 case round =>
   clear HB B2 B3
   obtain ⟨kk, hkk, hg, rfl, HB, B2, B3, N⟩ := hrel
   have hmx : es.length ≤ 9223372036854775807 := (HE.out).2.1
   by_cases hlt : kk < es.length
   · have hltz : (kk : Int) < (es.length : Int) := by omega
     obtain ⟨ead, ecs, rfl, _, eK, ecc⟩ := Kd.C_get HE.out z38 (kk : Int) (by omega) (by omega)
     have eK' := eK
     obtain ⟨eA1, ec1, rfl, el1, eg1⟩ := k38_open eK'
     have ex0 := (HB.out.cell (World.block_lt_of_cell? w _ (ecc 0 _ rfl))).trans (ecc 0 _ rfl)
     have ex1 := (HB.out.cell (World.block_lt_of_cell? w _ (ecc 1 _ rfl))).trans (ecc 1 _ rfl)
     rw [show (k38).sz = 2 from rfl, Nat.add_zero, Int.toNat_natCast] at ex0
     rw [show (k38).sz = 2 from rfl, Int.toNat_natCast, add_field _ _ 1 (by omega)] at ex1
     clear ecc
     try simp only [Int.toNat_natCast] at ex0 ex1 eK el1 eg1
     generalize Yy0 : es.getD kk z38 = y at ex0 ex1 eK el1 eg1
     have Yy := Aside0.mk Yy0; clear Yy0
     have eL1 := Aside0.mk el1; have eG1 := Aside0.mk eg1; clear el1 eg1
     have hname := fun W => name_calls false y.f0 W
     have hall := fun (W : World) (hB : Below w.heap.size w W) => all_calls W _ (conB false) (con_fn W false) eA1 ec1 y.f1 (Kd.C_below eG1.out hB) 1 8 W (Below.refl _ _)
     have HQ := Aside0.mk (show enumB false y = (nameB false y.f0 && allB y.f1 1 8 (conB false)) from rfl)
     generalize nameB false y.f0 = a at hname HQ
     generalize allB y.f1 1 8 (conB false) = b at hall HQ
     go_wp2_with ((with_reducible refine gate_store (t := 38) (p := 7) rfl ?_); refine store_whole rfl rfl 38 _ _ rfl wr.heap.size _ 38 rfl (blk_new _ _) _ rfl rfl rfl (by simp [Value.oneCell']) ?_; intro w2 hb2 hg2; replace B2 := Aside0.mk (blk_as B2.out hg2); replace B3 := Aside0.mk (blk_as B3.out hg2); replace HB := Aside0.mk (below_as HB.out hg2); obtain ⟨ge, hq_⟩ : ∃ g_, g_ = wr.heap.size := ⟨_, rfl⟩; rw [← hq_] at hb2; rw [← hq_]; have BE := Aside0.mk hb2; clear hb2 hg2 hq_; have cg2_0 := (blk_cell B2.out 0).trans rfl; have cg3_0 := (blk_cell B3.out 0).trans rfl; have cg3_1 := (blk_cell B3.out 1).trans rfl; have ce_0 := (blk_cell BE.out 0).trans rfl; have ce_1 := (blk_cell BE.out 1).trans rfl)
     with_reducible refine (hname _).mono ?_
     rintro e w5 ⟨rfl, hb⟩
     replace B2 := Aside0.mk (below_blk B2.out hb)
     replace B3 := Aside0.mk (below_blk B3.out hb)
     replace BE := Aside0.mk (below_blk BE.out hb)
     replace HB := Aside0.mk (below_step HB.out hb)
     clear hb
     clear cg2_0
     clear cg3_0 cg3_1
     clear ce_0 ce_1
     cases a with
     | false =>
       have cg2_0 := (blk_cell B2.out 0).trans rfl
       have cg3_0 := (blk_cell B3.out 0).trans rfl
       have cg3_1 := (blk_cell B3.out 1).trans rfl
       have ce_0 := (blk_cell BE.out 0).trans rfl
       have ce_1 := (blk_cell BE.out 1).trans rfl
       go_wp2_with fail
       go_ret
       exact ⟨by rw [HF.out, all_getD_no es (enumB false) z38 kk hlt (by rw [Yy.out, HQ.out]; simp)]; rfl, HB.out⟩
     | true =>
     have cg2_0 := (blk_cell B2.out 0).trans rfl
     have cg3_0 := (blk_cell B3.out 0).trans rfl
     have cg3_1 := (blk_cell B3.out 1).trans rfl
     have ce_0 := (blk_cell BE.out 0).trans rfl
     have ce_1 := (blk_cell BE.out 1).trans rfl
     go_wp2_with fail
     with_reducible refine (hall _ HB.out).mono ?_
     rintro e w6 ⟨rfl, hb⟩
     replace B2 := Aside0.mk (below_blk B2.out hb)
     replace B3 := Aside0.mk (below_blk B3.out hb)
     replace BE := Aside0.mk (below_blk BE.out hb)
     replace HB := Aside0.mk (below_step HB.out hb)
     clear hb
     clear cg2_0
     clear cg3_0 cg3_1
     clear ce_0 ce_1
     cases b with
     | false =>
       have cg2_0 := (blk_cell B2.out 0).trans rfl
       have cg3_0 := (blk_cell B3.out 0).trans rfl
       have cg3_1 := (blk_cell B3.out 1).trans rfl
       have ce_0 := (blk_cell BE.out 0).trans rfl
       have ce_1 := (blk_cell BE.out 1).trans rfl
       go_wp2_with fail
       go_ret
       exact ⟨by rw [HF.out, all_getD_no es (enumB false) z38 kk hlt (by rw [Yy.out, HQ.out]; simp)]; rfl, HB.out⟩
     | true =>
     have cg2_0 := (blk_cell B2.out 0).trans rfl
     have cg3_0 := (blk_cell B3.out 0).trans rfl
     have cg3_1 := (blk_cell B3.out 1).trans rfl
     have ce_0 := (blk_cell BE.out 0).trans rfl
     have ce_1 := (blk_cell BE.out 1).trans rfl
     go_wp2_with fail
     go_roundg (es.length - (kk + 1))
     case measure => omega
     case rel =>
       refine ⟨kk + 1, by omega, by omega, by go_num, HB, B2, B3, ⟨fun j hj => ?_⟩⟩
       by_cases e : j = kk
       · subst e; rw [Yy.out]; exact HQ.out
       · exact N.out j (by omega)
   · have hltz : ¬ (kk : Int) < (es.length : Int) := by omega
     obtain rfl : kk = es.length := by omega
     have ALL := Aside0.mk (all_getD _ _ _ N.out)
     clear N hg hkk
     have cg2_0 := (blk_cell B2.out 0).trans rfl
     have cg3_0 := (blk_cell B3.out 0).trans rfl
     have cg3_1 := (blk_cell B3.out 1).trans rfl
     go_wp2_with fail
     with_reducible refine (hct _ _ HB.out B2.out).mono ?_
     rintro e w9 ⟨rfl, hb⟩
     replace HB := Aside0.mk (below_step HB.out hb)
     clear hb
     go_wp2_with fail
     go_ret
     exact ⟨by rw [HF.out, ALL.out]; cases r <;> rfl, HB.out⟩
theorem program_calls (made : Bool) (es : List S38) (ns : List S35) (Ae An : Option Addr) (ce cn : Nat) (w : World) (he : k38.C w Ae es.length es) (hn : k35.C w An ns.length ns) :
   Calls Tryz.prog 24 #[.agg #[.bool made], .agg #[.slice Ae es.length ce, .slice An ns.length cn]] w fun e w' => e = .returned (.bool (programB made es ns)) ∧ Below w.heap.size w w' := by
 cases made
 · exact program_false es ns Ae An ce cn w he hn
 · exact program_true es ns Ae An ce cn w he hn
end Go.Proofs.YtggfnbnochmkdaaGreat
