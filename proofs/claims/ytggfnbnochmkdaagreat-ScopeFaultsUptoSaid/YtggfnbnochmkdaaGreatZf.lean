/- The reference: whether a call is well. -/
import Derived.Test.YtggfnbnochmkdaaGreatZc
namespace Go.Proofs.YtggfnbnochmkdaaGreat
open Go Go.RowKit Go.Lib Go.Proofs.YtggfnbnochmkdaaGreatW.PrintWords Go.Proofs.YtggfnbnochmkdaaGreat.PScope
set_option maxRecDepth 100000
set_option linter.unusedSimpArgs false
set_option linter.unusedVariables false
theorem rd_ndD (ns : List S35) (i : Nat) : rd_T35 ns (i : Int) = ns.getD i z35 := by unfold rd_T35; rw [Int.toNat_natCast]
theorem findN_lt {s : ByteArray} {l : List S35} : ∀ {i : Nat}, findN s l = some i → i < l.length := by
 induction l with
 | nil => intro i h; cases h
 | cons n r ih =>
   intro i h
   rw [findN] at h
   split at h
   · cases h; simp
   · cases hq : findN s r with
     | none => rw [hq] at h; cases h
     | some j => rw [hq] at h; cases h; have := ih hq; simp; omega
def argZ (ns : List S35) (k : Nat) (n : S35) (c : ByteArray) : Bool := inB n.f1 c || (match findN c (ns.take k) with | none => false | some h => decide (((ns.getD h z35).f1.length : Int) ≤ 0))
def callZ (ns : List S35) (k : Nat) (n : S35) (e : S42) (outs : Int) : Bool :=
 if inB n.f1 e.f1 = true then ((e.f3.length : Int) == 0) else
 match findN e.f1 (ns.take k) with
 | none => false
 | some i => (((ns.getD i z35).f2.length : Int) == (e.f4.length : Int)) && ((((ns.getD i z35).f1.length : Int) == (e.f3.length : Int)) && ((((ns.getD i z35).f3.length : Int) == outs) && e.f3.all (argZ ns k n)))
theorem callB_tied {ns : List S35} {k : Nat} {m : Mp} {n : S35} {fs : ByteArray → Option Int} (hm : TiedN ns k m) (hf : ∀ s, (fs s).isSome = inB n.f1 s) (e : S42) (outs : Int) : callB m fs ns e outs = callZ ns k n e outs := by
 have ha : argOk m fs ns = argZ ns k n := by
   funext c
   unfold argOk argZ
   rw [hf, hm c]
   cases findN c (ns.take k) with
   | none => rfl
   | some h => simp only [Option.map_some, rd_ndD]
 unfold callB callZ
 rw [hf, hm e.f1, ha]
 cases findN e.f1 (ns.take k) with
 | none => rfl
 | some h => simp only [Option.map_some, rd_ndD]
set_option maxHeartbeats 16000000 in
theorem zcall_calls (es : List S38) (ns : List S35) (Ae An : Option Addr) (ce cn : Nat) (k : Nat) (w0 w : World) (hn : k35.C w0 An ns.length ns) (hcn : ns.length ≤ cn) (hk : k < ns.length) (n : S35) (hnk : ns.getD k z35 = n) (hsz : n.f1.length ≤ 100) (e : S42) (csx : List Value) (hK : k42.K w0 e csx) (hw : Below w0.heap.size w0 w) (outs : Int) :
   Calls Tryz.prog 83 #[.agg #[.slice Ae es.length ce, .slice An ns.length cn], .int .i64 (k : Int), .agg csx.toArray, .int .i64 outs] w fun e_ w' => e_ = .returned (.bool (callZ ns k n e outs)) ∧ Below w.heap.size w w' := by
 obtain ⟨A3, c3, A4, c4, rfl, l3, g3, l4, g4⟩ := k42_open hK
 have L3 := Aside0.mk l3; have G3 := Aside0.mk g3; clear l3 g3
 have L4 := Aside0.mk l4; have G4 := Aside0.mk g4; clear l4 g4
 clear hK
 have HN := Aside0.mk hn; have HCN := Aside0.mk hcn; have HB := Aside0.mk hw; have HX := Aside0.mk (Below.refl w.heap.size w)
 have HF := Aside0.mk (show callZ ns k n e outs = (if inB n.f1 e.f1 = true then ((e.f3.length : Int) == 0) else match findN e.f1 (ns.take k) with | none => false | some i => (((ns.getD i z35).f2.length : Int) == (e.f4.length : Int)) && ((((ns.getD i z35).f1.length : Int) == (e.f3.length : Int)) && ((((ns.getD i z35).f3.length : Int) == outs) && e.f3.all (argZ ns k n)))) from rfl)
 have HSZ := Aside0.mk hsz; have HKL := Aside0.mk hk
 have hkz : (k : Int) < (ns.length : Int) := by omega
 have hnc : (k : Int) ≤ (cn : Int) := by omega
 have hnl : (k : Int) ≤ (ns.length : Int) := by omega
 clear hn hcn hsz hw
 have hu1 := Tryz.underlying25; have hu2 := Tryz.underlying35; have hu3 := Tryz.underlying42
 obtain ⟨nad, ncs, rfl, _, nK, ncc⟩ := Kd.C_get HN.out z35 (k : Int) (by omega) (by omega)
 have nK' := nK
 obtain ⟨nA1, nc1, nA2, nc2, nA3, nc3, nA4, nc4, rfl, nl1, ng1, nl2, ng2, nl3, ng3, nl4, ng4⟩ := k35_open nK'
 have nx0 := (HB.out.cell (World.block_lt_of_cell? w0 _ (ncc 0 _ rfl))).trans (ncc 0 _ rfl)
 have nx1 := (HB.out.cell (World.block_lt_of_cell? w0 _ (ncc 1 _ rfl))).trans (ncc 1 _ rfl)
 have nx2 := (HB.out.cell (World.block_lt_of_cell? w0 _ (ncc 2 _ rfl))).trans (ncc 2 _ rfl)
 have nx3 := (HB.out.cell (World.block_lt_of_cell? w0 _ (ncc 3 _ rfl))).trans (ncc 3 _ rfl)
 have nx4 := (HB.out.cell (World.block_lt_of_cell? w0 _ (ncc 4 _ rfl))).trans (ncc 4 _ rfl)
 rw [show (k35).sz = 5 from rfl, Nat.add_zero, Int.toNat_natCast] at nx0
 rw [show (k35).sz = 5 from rfl, Int.toNat_natCast, add_field _ _ 1 (by omega)] at nx1
 rw [show (k35).sz = 5 from rfl, Int.toNat_natCast, add_field _ _ 2 (by omega)] at nx2
 rw [show (k35).sz = 5 from rfl, Int.toNat_natCast, add_field _ _ 3 (by omega)] at nx3
 rw [show (k35).sz = 5 from rfl, Int.toNat_natCast, add_field _ _ 4 (by omega)] at nx4
 clear ncc
 try simp only [Int.toNat_natCast] at nx0 nx1 nx2 nx3 nx4 nK nl1 ng1 nl2 ng2 nl3 ng3 nl4 ng4
 rw [hnk] at nx0 nx1 nx2 nx3 nx4 nK nl1 ng1 nl2 ng2 nl3 ng3 nl4 ng4
 clear nK
 have nL1 := Aside0.mk nl1; have nG1 := Aside0.mk ng1; clear nl1 ng1
 have nL2 := Aside0.mk nl2; have nG2 := Aside0.mk ng2; clear nl2 ng2
 have nL3 := Aside0.mk nl3; have nG3 := Aside0.mk ng3; clear nl3 ng3
 have nL4 := Aside0.mk nl4; have nG4 := Aside0.mk ng4; clear nl4 ng4
 go_enter Tryz.func83, Tryz.ntmps83
 go_upto_region 1 with (first | ((with_reducible refine gate_dst (N := 4) rfl ?_); refine box_event ?hg (N := 4) ?hd (cs := #[.slice Ae es.length ce, .slice (some nad) ns.length cn]) (t := 25) ?hr ?_; (case hd => rfl); (case hg => rfl); (case hr => first | (go_simp; done) | (go_simp; rfl)); intro g4 hg_ w_4 hbox hb; have B4 := Aside0.mk hbox; have LB4 := Aside0.mk ((by rw [hg_]; exact below_size HB.out) : w0.heap.size ≤ g4); replace HB := Aside0.mk (below_step HB.out hb); replace HX := Aside0.mk (below_step HX.out hb); clear hb hbox hg_) | ((with_reducible refine gate_dst (N := 6) rfl ?_); refine box_event ?hg (N := 6) ?hd (cs := #[.int .i64 e.f0, .string e.f1, .int .i64 e.f2, .slice A3 (e.f3).length c3, .slice A4 (e.f4).length c4]) (t := 42) ?hr ?_; (case hd => rfl); (case hg => rfl); (case hr => first | (go_simp; done) | (go_simp; rfl)); intro g6 hg_ w_6 hbox hb; replace B4 := Aside0.mk (below_blk B4.out hb); have B6 := Aside0.mk hbox; have LB6 := Aside0.mk ((by rw [hg_]; exact below_size HB.out) : w0.heap.size ≤ g6); replace HB := Aside0.mk (below_step HB.out hb); replace HX := Aside0.mk (below_step HX.out hb); clear hb hbox hg_; have c4_0 := (blk_cell B4.out 0).trans rfl; have c4_1 := (blk_cell B4.out 1).trans rfl))
 have hn0 := (HX.out.cell (World.block_lt_of_cell? w _ nx0)).trans nx0
 have hn1 := (HX.out.cell (World.block_lt_of_cell? w _ nx1)).trans nx1
 have hn2 := (HX.out.cell (World.block_lt_of_cell? w _ nx2)).trans nx2
 have hn3 := (HX.out.cell (World.block_lt_of_cell? w _ nx3)).trans nx3
 have hn4 := (HX.out.cell (World.block_lt_of_cell? w _ nx4)).trans nx4
 go_upto_region 2 with ((with_reducible refine gate_store (t := 35) (p := 9) rfl ?_); refine store_whole rfl rfl 35 _ _ rfl w_6.heap.size _ 35 rfl (blk_new _ _) _ rfl rfl rfl (by simp [Value.oneCell']) ?_; intro w2 hb2 hg2; clear c4_0 c4_1 hn0 hn1 hn2 hn3 hn4; replace B4 := Aside0.mk (blk_as B4.out hg2); replace B6 := Aside0.mk (blk_as B6.out hg2); replace HB := Aside0.mk (below_as HB.out hg2); replace HX := Aside0.mk (below_as HX.out hg2); obtain ⟨g9, hq_⟩ : ∃ g_, g_ = w_6.heap.size := ⟨_, rfl⟩; rw [← hq_] at hb2; rw [← hq_]; have B9 := Aside0.mk hb2; clear hb2 hg2 hq_)
 clear nx0 nx1 nx2 nx3 nx4 hkz
 have hhas := fun (W : World) (hB : Below w0.heap.size w0 W) (s : ByteArray) => zhas_below nA1 nc1 n.f1 s W (Kd.C_below nG1.out hB) nL1.out (by have := HSZ.out; omega)
 have hnd := fun (W : World) (hB : Below w0.heap.size w0 W) (s : ByteArray) => znode_calls [] (ns.take k) none (some nad) 0 cn s W (Kd.C_nil _ _) (Nat.le_refl 0) (C_take' (Kd.C_below HN.out hB) k) (by have := HCN.out; rw [List.length_take]; omega)
 rw [show (ns.take k).length = k by have := HKL.out; rw [List.length_take]; omega] at hnd
 simp only [List.length_nil] at hnd
 generalize w2 = w8 at B4 B6 B9 HB HX ⊢
 have c9_0 := (blk_cell B9.out 0).trans rfl
 have c9_1 := (blk_cell B9.out 1).trans rfl
 have c9_2 := (blk_cell B9.out 2).trans rfl
 have c9_3 := (blk_cell B9.out 3).trans rfl
 have c9_4 := (blk_cell B9.out 4).trans rfl
 have c6_0 := (blk_cell B6.out 0).trans rfl
 have c6_1 := (blk_cell B6.out 1).trans rfl
 have c6_2 := (blk_cell B6.out 2).trans rfl
 have c6_3 := (blk_cell B6.out 3).trans rfl
 have c6_4 := (blk_cell B6.out 4).trans rfl
 go_wp2_with fail
 with_reducible refine (hhas _ HB.out e.f1).mono ?_
 rintro e_ w9 ⟨rfl, hb_⟩
 replace B4 := Aside0.mk (below_blk B4.out hb_); replace B6 := Aside0.mk (below_blk B6.out hb_); replace B9 := Aside0.mk (below_blk B9.out hb_)
 replace HX := Aside0.mk (below_step HX.out hb_); replace HB := Aside0.mk (below_step HB.out hb_)
 clear hb_
 clear c9_0 c9_1 c9_2 c9_3 c9_4
 clear c6_0 c6_1 c6_2 c6_3 c6_4
 generalize inB n.f1 e.f1 = q1 at HF ⊢
 have c6_0 := (blk_cell B6.out 0).trans rfl
 have c6_1 := (blk_cell B6.out 1).trans rfl
 have c6_2 := (blk_cell B6.out 2).trans rfl
 have c6_3 := (blk_cell B6.out 3).trans rfl
 have c6_4 := (blk_cell B6.out 4).trans rfl
 cases q1 with
 | true =>
   go_wp2_with fail
   go_ret
   exact ⟨by rw [HF.out.trans (by first | exact if_pos trivial | exact if_pos rfl)]; rfl, HX.out⟩
 | false =>
 have c4_0 := (blk_cell B4.out 0).trans rfl
 have c4_1 := (blk_cell B4.out 1).trans rfl
 go_upto_region 5 with ((with_reducible refine gate_store (t := 25) (p := 10) rfl ?_); refine store_whole rfl rfl 25 _ _ rfl w9.heap.size _ 25 rfl (blk_new _ _) _ rfl rfl rfl (by simp [Value.oneCell']) ?_; intro w2 hb2 hg2; clear c4_0 c4_1 c6_0 c6_1 c6_2 c6_3 c6_4; replace B4 := Aside0.mk (blk_as B4.out hg2); replace B6 := Aside0.mk (blk_as B6.out hg2); replace B9 := Aside0.mk (blk_as B9.out hg2); replace HB := Aside0.mk (below_as HB.out hg2); replace HX := Aside0.mk (below_as HX.out hg2); obtain ⟨g10, hq_⟩ : ∃ g_, g_ = w9.heap.size := ⟨_, rfl⟩; rw [← hq_] at hb2; rw [← hq_]; have B10 := Aside0.mk hb2; clear hb2 hg2 hq_)
 clear hnc hnl
 generalize w2 = w10 at B4 B6 B9 B10 HB HX ⊢
 have c6_0 := (blk_cell B6.out 0).trans rfl
 have c6_1 := (blk_cell B6.out 1).trans rfl
 have c6_2 := (blk_cell B6.out 2).trans rfl
 have c6_3 := (blk_cell B6.out 3).trans rfl
 have c6_4 := (blk_cell B6.out 4).trans rfl
 have c10_0 := (blk_cell B10.out 0).trans rfl
 have c10_1 := (blk_cell B10.out 1).trans rfl
 go_wp2_with fail
 with_reducible refine (hnd _ HB.out e.f1).mono ?_
 rintro e_ w11 ⟨rfl, hb_⟩
 replace B4 := Aside0.mk (below_blk B4.out hb_); replace B6 := Aside0.mk (below_blk B6.out hb_); replace B9 := Aside0.mk (below_blk B9.out hb_); replace B10 := Aside0.mk (below_blk B10.out hb_)
 replace HX := Aside0.mk (below_step HX.out hb_); replace HB := Aside0.mk (below_step HB.out hb_)
 clear hb_ c10_0 c10_1
 clear c6_0 c6_1 c6_2 c6_3 c6_4
 cases hq : findN e.f1 (ns.take k) with
 | none =>
   have HQ := Aside0.mk hq; clear hq
   simp only [Option.isSome_none]
   go_wp2_with fail
   go_ret
   exact ⟨by rw [HF.out, if_neg Bool.false_ne_true, HQ.out]; rfl, HX.out⟩
 | some i =>
   have hil : i < ns.length := by have h_ := findN_lt hq; rw [List.length_take] at h_; omega
   have hiz : (i : Int) < (ns.length : Int) := by omega
   have HF2 := Aside0.mk (show callZ ns k n e outs = ((((ns.getD i z35).f2.length : Int) == (e.f4.length : Int)) && ((((ns.getD i z35).f1.length : Int) == (e.f3.length : Int)) && ((((ns.getD i z35).f3.length : Int) == outs) && e.f3.all (argZ ns k n)))) by rw [HF.out, if_neg Bool.false_ne_true, hq])
   clear HF hq
   simp only [Option.isSome_some, Option.getD_some]
   obtain ⟨gad, gcs, hg_, _, gK, gcc⟩ := Kd.C_get HN.out z35 (i : Int) (by omega) (by omega)
   obtain rfl := (Option.some.inj hg_).symm; clear hg_; have gK' := gK
   obtain ⟨gA1, gc1, gA2, gc2, gA3, gc3, gA4, gc4, rfl, gl1, gg1, gl2, gg2, gl3, gg3, gl4, gg4⟩ := k35_open gK'
   have gx0 := (HB.out.cell (World.block_lt_of_cell? w0 _ (gcc 0 _ rfl))).trans (gcc 0 _ rfl)
   have gx1 := (HB.out.cell (World.block_lt_of_cell? w0 _ (gcc 1 _ rfl))).trans (gcc 1 _ rfl)
   have gx2 := (HB.out.cell (World.block_lt_of_cell? w0 _ (gcc 2 _ rfl))).trans (gcc 2 _ rfl)
   have gx3 := (HB.out.cell (World.block_lt_of_cell? w0 _ (gcc 3 _ rfl))).trans (gcc 3 _ rfl)
   have gx4 := (HB.out.cell (World.block_lt_of_cell? w0 _ (gcc 4 _ rfl))).trans (gcc 4 _ rfl)
   rw [show (k35).sz = 5 from rfl, Nat.add_zero, Int.toNat_natCast] at gx0
   rw [show (k35).sz = 5 from rfl, Int.toNat_natCast, add_field _ _ 1 (by omega)] at gx1
   rw [show (k35).sz = 5 from rfl, Int.toNat_natCast, add_field _ _ 2 (by omega)] at gx2
   rw [show (k35).sz = 5 from rfl, Int.toNat_natCast, add_field _ _ 3 (by omega)] at gx3
   rw [show (k35).sz = 5 from rfl, Int.toNat_natCast, add_field _ _ 4 (by omega)] at gx4
   clear gcc
   try simp only [Int.toNat_natCast] at gx0 gx1 gx2 gx3 gx4 gK gl1 gg1 gl2 gg2 gl3 gg3 gl4 gg4
   generalize Yg0 : ns.getD i z35 = g at HF2 gx0 gx1 gx2 gx3 gx4 gK gl1 gg1 gl2 gg2 gl3 gg3 gl4 gg4
   have Yg := Aside0.mk Yg0; clear Yg0
   have gL1 := Aside0.mk gl1; have gG1 := Aside0.mk gg1; clear gl1 gg1
   have gL2 := Aside0.mk gl2; have gG2 := Aside0.mk gg2; clear gl2 gg2
   have gL3 := Aside0.mk gl3; have gG3 := Aside0.mk gg3; clear gl3 gg3
   have gL4 := Aside0.mk gl4; have gG4 := Aside0.mk gg4; clear gl4 gg4
   clear gK
   have c4_0 := (blk_cell B4.out 0).trans rfl
   have c4_1 := (blk_cell B4.out 1).trans rfl
   go_upto_region 9 with ((with_reducible refine gate_store (t := 35) (p := 13) rfl ?_); refine store_whole rfl rfl 35 _ _ rfl w11.heap.size _ 35 rfl (blk_new _ _) _ rfl rfl rfl (by simp [Value.oneCell']) ?_; intro w2 hb2 hg2; clear c4_0 c4_1; replace B4 := Aside0.mk (blk_as B4.out hg2); replace B6 := Aside0.mk (blk_as B6.out hg2); replace B9 := Aside0.mk (blk_as B9.out hg2); replace B10 := Aside0.mk (blk_as B10.out hg2); replace HB := Aside0.mk (below_as HB.out hg2); replace HX := Aside0.mk (below_as HX.out hg2); obtain ⟨g13, hq_⟩ : ∃ g_, g_ = w11.heap.size := ⟨_, rfl⟩; rw [← hq_] at hb2; rw [← hq_]; have B13 := Aside0.mk hb2; clear hb2 hg2 hq_)
   clear gx0 gx1 gx2 gx3 gx4 hiz
   generalize w2 = w12 at B4 B6 B9 B10 B13 HB HX ⊢
   have c6_0 := (blk_cell B6.out 0).trans rfl
   have c6_1 := (blk_cell B6.out 1).trans rfl
   have c6_2 := (blk_cell B6.out 2).trans rfl
   have c6_3 := (blk_cell B6.out 3).trans rfl
   have c6_4 := (blk_cell B6.out 4).trans rfl
   have c13_0 := (blk_cell B13.out 0).trans rfl
   have c13_1 := (blk_cell B13.out 1).trans rfl
   have c13_2 := (blk_cell B13.out 2).trans rfl
   have c13_3 := (blk_cell B13.out 3).trans rfl
   have c13_4 := (blk_cell B13.out 4).trans rfl
   by_cases e0 : g.f2.length ≠ e.f4.length
   · have t0 : ((g.f2.length : Int) != (e.f4.length : Int)) = true := by rw [bne, beq_eq_false_iff_ne.2 (by omega)]; rfl
     have HR := Aside0.mk (show callZ ns k n e outs = false by rw [HF2.out, (beq_eq_false_iff_ne.2 (by omega) : ((g.f2.length : Int) == (e.f4.length : Int)) = false)]; simp)
     clear e0 HF2
     go_wp2_with fail
     go_ret
     exact ⟨by rw [HR.out]; rfl, HX.out⟩
   replace e0 : g.f2.length = e.f4.length := by omega
   have t0 : ((g.f2.length : Int) != (e.f4.length : Int)) = false := by rw [e0, bne, beq_self_eq_true]; rfl
   by_cases e1 : g.f1.length ≠ e.f3.length
   · have t1 : ((g.f1.length : Int) != (e.f3.length : Int)) = true := by rw [bne, beq_eq_false_iff_ne.2 (by omega)]; rfl
     have HR := Aside0.mk (show callZ ns k n e outs = false by rw [HF2.out, (beq_eq_false_iff_ne.2 (by omega) : ((g.f1.length : Int) == (e.f3.length : Int)) = false)]; simp)
     clear e1 HF2
     go_wp2_with fail
     go_ret
     exact ⟨by rw [HR.out]; rfl, HX.out⟩
   replace e1 : g.f1.length = e.f3.length := by omega
   have t1 : ((g.f1.length : Int) != (e.f3.length : Int)) = false := by rw [e1, bne, beq_self_eq_true]; rfl
   by_cases e2 : (g.f3.length : Int) ≠ outs
   · have t2 : ((g.f3.length : Int) != outs) = true := by rw [bne, beq_eq_false_iff_ne.2 e2]; rfl
     have HR := Aside0.mk (show callZ ns k n e outs = false by rw [HF2.out, (beq_eq_false_iff_ne.2 e2 : ((g.f3.length : Int) == outs) = false)]; simp)
     clear e0 e1 e2 HF2
     go_wp2_with fail
     go_ret
     exact ⟨by rw [HR.out]; rfl, HX.out⟩
   replace e2 : (g.f3.length : Int) = outs := Classical.not_not.1 e2
   have t2 : ((g.f3.length : Int) != outs) = false := by rw [e2, bne, beq_self_eq_true]; rfl
   have HF3 := Aside0.mk (show callZ ns k n e outs = e.f3.all (argZ ns k n) by rw [HF2.out, e0, e1, e2, beq_self_eq_true, beq_self_eq_true, beq_self_eq_true]; rfl)
   clear e0 e1 e2 HF2
   go_wp2_with fail
   clear t0 t1 t2 c13_0 c13_1 c13_2 c13_3 c13_4
   clear c6_0 c6_1 c6_2 c6_3 c6_4
   have HK := Aside0.mk (Below.refl w12.heap.size w12)
   go_loopg [14] e.f3.length (fun gg s_ wr => ∃ (kka : Nat), kka ≤ e.f3.length ∧ e.f3.length - kka ≤ gg ∧ s_ = .int .i64 kka ∧ Aside0 (Below w12.heap.size w12 wr) ∧ Aside0 (∀ j, j < kka → argZ ns k n (e.f3.getD j (⟨#[]⟩ : ByteArray)) = true))
   case atStart => exact ⟨0, Nat.zero_le _, by omega, rfl, HK, ⟨fun j hj => absurd hj (Nat.not_lt_zero _)⟩⟩
   case round =>
     clear HK
     obtain ⟨kka, hkka, hgkka, rfl, HK, Na⟩ := hrel
     have hmxa : e.f3.length ≤ 9223372036854775807 := (G3.out).2.1
     by_cases hlta : kka < e.f3.length
     · have hltza : (kka : Int) < (e.f3.length : Int) := by omega
       have HBr := Aside0.mk (below_step HB.out HK.out)
       obtain ⟨cad, ccs, hc_, _, cK, ccc⟩ := Kd.C_get G3.out (⟨#[]⟩ : ByteArray) (kka : Int) (by omega) (by omega)
       obtain rfl := cK
       subst hc_
       have cx0 := (HBr.out.cell (World.block_lt_of_cell? w0 _ (ccc 0 _ rfl))).trans (ccc 0 _ rfl)
       simp only [show Kd.string.sz = 1 from rfl, Nat.mul_one, Nat.add_zero, Int.toNat_natCast] at cx0
       clear ccc
       try simp only [Int.toNat_natCast] at cx0
       generalize Yc0 : e.f3.getD kka (⟨#[]⟩ : ByteArray) = c at cx0
       have Yc := Aside0.mk Yc0; clear Yc0
       have B6x := Aside0.mk (below_blk B6.out HK.out)
       have c6_0 := (blk_cell B6x.out 0).trans rfl
       have c6_1 := (blk_cell B6x.out 1).trans rfl
       have c6_2 := (blk_cell B6x.out 2).trans rfl
       have c6_3 := (blk_cell B6x.out 3).trans rfl
       have c6_4 := (blk_cell B6x.out 4).trans rfl
       have B10x := Aside0.mk (below_blk B10.out HK.out)
       have c10_0 := (blk_cell B10x.out 0).trans rfl
       have c10_1 := (blk_cell B10x.out 1).trans rfl
       go_wp2_with fail
       go_cut [15, 16] from 80 to 89 (fun s15 s16 wx => s15 = .int .i64 (((findN c (ns.take k)).getD 0 : Nat) : Int) ∧ s16 = .bool (findN c (ns.take k)).isSome ∧ Aside0 (Below w12.heap.size w12 wx))
       case first =>
         go_region_with (with_reducible refine (hnd _ (below_drew1 HBr.out) c).mono ?_; rintro e_ w13 ⟨rfl, hb_⟩; have HK_ := Aside0.mk (below_step (below_drew1 HK.out) hb_); clear hb_)
         all_goals
           go_wp2_with fail
           go_meet
           case rel => exact ⟨rfl, rfl, HK_⟩
       case rest =>
         clear HK HBr B6x B10x c10_0 c10_1 cx0
         clear c6_0 c6_1 c6_2 c6_3 c6_4
         obtain ⟨rfl, rfl, HK⟩ := hcut
         have HBr := Aside0.mk (below_step HB.out HK.out)
         have HA := Aside0.mk (show argZ ns k n c = (inB n.f1 c || (match findN c (ns.take k) with | none => false | some h => decide (((ns.getD h z35).f1.length : Int) ≤ 0))) from rfl)
         have HCC := Aside0.mk (show wc.cell? (cad.add kka) = some (.string c) by have h1_ := (below_step HB.out HK.out); obtain ⟨cad2, ccs2, hc2_, _, cK2, ccc2⟩ := Kd.C_get G3.out (⟨#[]⟩ : ByteArray) (kka : Int) (by omega) (by omega); obtain rfl := (Option.some.inj hc2_).symm; have h3_ := ccc2 0; subst cK2; have h4_ := h3_ _ rfl; simp only [show Kd.string.sz = 1 from rfl, Nat.mul_one, Nat.add_zero, Int.toNat_natCast] at h4_; rw [Yc.out] at h4_; exact (h1_.cell (World.block_lt_of_cell? w0 _ h4_)).trans h4_)
         have cx0 := HCC.out
         have B6x := Aside0.mk (below_blk B6.out HK.out)
         have c6_0 := (blk_cell B6x.out 0).trans rfl
         have c6_1 := (blk_cell B6x.out 1).trans rfl
         have c6_2 := (blk_cell B6x.out 2).trans rfl
         have c6_3 := (blk_cell B6x.out 3).trans rfl
         have c6_4 := (blk_cell B6x.out 4).trans rfl
         have B9x := Aside0.mk (below_blk B9.out HK.out)
         have c9_0 := (blk_cell B9x.out 0).trans rfl
         have c9_1 := (blk_cell B9x.out 1).trans rfl
         have c9_2 := (blk_cell B9x.out 2).trans rfl
         have c9_3 := (blk_cell B9x.out 3).trans rfl
         have c9_4 := (blk_cell B9x.out 4).trans rfl
         have B4x := Aside0.mk (below_blk B4.out HK.out)
         have c4_0 := (blk_cell B4x.out 0).trans rfl
         have c4_1 := (blk_cell B4x.out 1).trans rfl
         generalize hq0 : inB n.f1 c = q at HA
         have hh := zhas_drew nA1 nc1 n.f1 c q wc (Kd.C_below nG1.out HBr.out) nL1.out (by have := HSZ.out; omega) hq0
         clear hq0
         cases q with
         | true =>
           have HAT := Aside0.mk (show argZ ns k n c = true by rw [HA.out]; rfl)
           clear HA
           go_wp2_with fail
           go_quiet ((go_at_call 39; exact hh _))
           have HK_ := Aside0.mk (pw_below_drewN HK.out nq); clear HK hh HBr cx0 HCC B6x B9x B4x c4_0 c4_1 c6_0 c6_1 c6_2 c6_3 c6_4 c9_0 c9_1 c9_2 c9_3 c9_4
           generalize wc.drewN nq = w14 at HK_ ⊢
           have HK := HK_; clear HK_
           go_wp2_with fail
           go_roundg (e.f3.length - (kka + 1))
           case measure => omega
           case rel => exact ⟨kka + 1, by omega, by omega, by go_num, HK, ⟨zupto_step (P := argZ ns k n) Na.out Yc.out HAT.out⟩⟩
         | false =>
         cases hq : findN c (ns.take k) with
         | none =>
           have HAT := Aside0.mk (show argZ ns k n c = false by rw [HA.out, hq]; rfl)
           clear HA hq
           simp only [Option.isSome_none, Option.getD_none]
           go_wp2_with fail
           go_quiet ((go_at_call 39; exact hh _))
           have HK_ := Aside0.mk (pw_below_drewN HK.out nq); clear HK hh HBr cx0 HCC B6x B9x B4x c4_0 c4_1 c6_0 c6_1 c6_2 c6_3 c6_4 c9_0 c9_1 c9_2 c9_3 c9_4
           generalize wc.drewN nq = w14 at HK_ ⊢
           have HK := HK_; clear HK_
           go_wp2_with fail
           go_ret
           exact ⟨by rw [HF3.out, all_getD_no e.f3 (argZ ns k n) (⟨#[]⟩ : ByteArray) kka hlta (by rw [Yc.out]; exact HAT.out)]; rfl, below_step HX.out HK.out⟩
         | some h =>
           have hhl : h < ns.length := by have h_ := findN_lt hq; rw [List.length_take] at h_; omega
           have hhz : (h : Int) < (ns.length : Int) := by omega
           have HA2 := Aside0.mk (show argZ ns k n c = decide (((ns.getD h z35).f1.length : Int) ≤ 0) by rw [HA.out, hq]; rfl)
           clear HA hq
           simp only [Option.isSome_some, Option.getD_some]
           obtain ⟨uad, ucs, hg_, _, uK, ucc⟩ := Kd.C_get HN.out z35 (h : Int) (by omega) (by omega)
           obtain rfl := (Option.some.inj hg_).symm; clear hg_; have uK' := uK
           obtain ⟨uA1, uc1, uA2, uc2, uA3, uc3, uA4, uc4, rfl, ul1, ug1, ul2, ug2, ul3, ug3, ul4, ug4⟩ := k35_open uK'
           have ux0 := (HBr.out.cell (World.block_lt_of_cell? w0 _ (ucc 0 _ rfl))).trans (ucc 0 _ rfl)
           have ux1 := (HBr.out.cell (World.block_lt_of_cell? w0 _ (ucc 1 _ rfl))).trans (ucc 1 _ rfl)
           have ux2 := (HBr.out.cell (World.block_lt_of_cell? w0 _ (ucc 2 _ rfl))).trans (ucc 2 _ rfl)
           have ux3 := (HBr.out.cell (World.block_lt_of_cell? w0 _ (ucc 3 _ rfl))).trans (ucc 3 _ rfl)
           have ux4 := (HBr.out.cell (World.block_lt_of_cell? w0 _ (ucc 4 _ rfl))).trans (ucc 4 _ rfl)
           rw [show (k35).sz = 5 from rfl, Nat.add_zero, Int.toNat_natCast] at ux0
           rw [show (k35).sz = 5 from rfl, Int.toNat_natCast, add_field _ _ 1 (by omega)] at ux1
           rw [show (k35).sz = 5 from rfl, Int.toNat_natCast, add_field _ _ 2 (by omega)] at ux2
           rw [show (k35).sz = 5 from rfl, Int.toNat_natCast, add_field _ _ 3 (by omega)] at ux3
           rw [show (k35).sz = 5 from rfl, Int.toNat_natCast, add_field _ _ 4 (by omega)] at ux4
           clear ucc
           try simp only [Int.toNat_natCast] at ux0 ux1 ux2 ux3 ux4 uK ul1 ug1 ul2 ug2 ul3 ug3 ul4 ug4
           generalize Yu0 : ns.getD h z35 = u at HA2 ux0 ux1 ux2 ux3 ux4 uK ul1 ug1 ul2 ug2 ul3 ug3 ul4 ug4
           have Yu := Aside0.mk Yu0; clear Yu0
           clear uK ul1 ug1 ul2 ug2 ul3 ug3 ul4 ug4
           by_cases eu : (u.f1.length : Int) > 0
           · have HAT := Aside0.mk (show argZ ns k n c = false by rw [HA2.out]; exact decide_eq_false (by omega))
             have teu : decide ((u.f1.length : Int) > 0) = true := decide_eq_true eu
             have teu2 : decide (0 < (u.f1.length : Int)) = true := decide_eq_true (by omega)
             have teu3 : 0 < u.f1.length := by omega
             go_wp2_with fail
             go_quiet ((go_at_call 39; exact hh _))
             have HK_ := Aside0.mk (pw_below_drewN HK.out nq); clear HK hh hhz hhl ux0 ux1 ux2 ux3 ux4 HBr cx0 HCC B6x B9x B4x c4_0 c4_1 c6_0 c6_1 c6_2 c6_3 c6_4 c9_0 c9_1 c9_2 c9_3 c9_4
             generalize wc.drewN nq = w14 at HK_ ⊢
             have HK := HK_; clear HK_
             go_wp2_with fail
             go_ret
             exact ⟨by rw [HF3.out, all_getD_no e.f3 (argZ ns k n) (⟨#[]⟩ : ByteArray) kka hlta (by rw [Yc.out]; exact HAT.out)]; rfl, below_step HX.out HK.out⟩
           · have HAT := Aside0.mk (show argZ ns k n c = true by rw [HA2.out]; exact decide_eq_true (by omega))
             have teu : decide ((u.f1.length : Int) > 0) = false := decide_eq_false eu
             have teu2 : decide (0 < (u.f1.length : Int)) = false := decide_eq_false (by omega)
             have teu3 : ¬ 0 < u.f1.length := by omega
             go_wp2_with fail
             go_quiet ((go_at_call 39; exact hh _))
             have HK_ := Aside0.mk (pw_below_drewN HK.out nq); clear HK hh hhz hhl ux0 ux1 ux2 ux3 ux4 HBr cx0 HCC B6x B9x B4x c4_0 c4_1 c6_0 c6_1 c6_2 c6_3 c6_4 c9_0 c9_1 c9_2 c9_3 c9_4
             generalize wc.drewN nq = w14 at HK_ ⊢
             have HK := HK_; clear HK_
             go_wp2_with fail
             go_roundg (e.f3.length - (kka + 1))
             case measure => omega
             case rel => exact ⟨kka + 1, by omega, by omega, by go_num, HK, ⟨zupto_step (P := argZ ns k n) Na.out Yc.out HAT.out⟩⟩
     · have hltza : ¬ (kka : Int) < (e.f3.length : Int) := by omega
       obtain rfl : kka = e.f3.length := by omega
       have HA := Aside0.mk (all_getD e.f3 (argZ ns k n) (⟨#[]⟩ : ByteArray) Na.out)
       have B6x := Aside0.mk (below_blk B6.out HK.out)
       have c6_0 := (blk_cell B6x.out 0).trans rfl
       have c6_1 := (blk_cell B6x.out 1).trans rfl
       have c6_2 := (blk_cell B6x.out 2).trans rfl
       have c6_3 := (blk_cell B6x.out 3).trans rfl
       have c6_4 := (blk_cell B6x.out 4).trans rfl
       go_wp2_with fail
       go_ret
       exact ⟨by rw [HF3.out, HA.out]; rfl, below_step HX.out HK.out⟩
end Go.Proofs.YtggfnbnochmkdaaGreat
