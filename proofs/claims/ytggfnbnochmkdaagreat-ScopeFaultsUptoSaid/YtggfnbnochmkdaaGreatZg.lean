/- The reference: whether all that an expression uses is there. -/
import Derived.Test.YtggfnbnochmkdaaGreatZf
namespace Go.Proofs.YtggfnbnochmkdaaGreat
open Go Go.RowKit Go.Lib Go.Proofs.YtggfnbnochmkdaaGreatW.PrintWords Go.Proofs.YtggfnbnochmkdaaGreat.PScope
set_option maxRecDepth 100000
set_option linter.unusedSimpArgs false
set_option linter.unusedVariables false
structure Tied (es : List S38) (ns : List S35) (k : Nat) (n : S35) (m : Mp) (vs fs : ByteArray → Option Int) : Prop where
 cons : ∀ s, m.cons s = (conR es s).2.2
 nodes : TiedN ns k m
 vars : ∀ s, (vs s).isSome = inB (varsL n) s
 funs : ∀ s, (fs s).isSome = inB n.f1 s
theorem topU_tied {es : List S38} {ns : List S35} {k : Nat} {n : S35} {m : Mp} {vs fs : ByteArray → Option Int} (h : Tied es ns k n m vs fs) (x : S42) (inside : Bool) (outs : Int) : topU m vs fs es ns x inside outs =
   (if x.f0 = 4 then inB (varsL n) x.f1 else if x.f0 = 3 then (conR es x.f1).2.2 else if x.f0 = 11 then (inB (varsL n) x.f1 && ((conR es (x.f3.getD 0 (⟨#[]⟩ : ByteArray))).2.2 && !inside))
    else if x.f0 = 12 ∨ x.f0 = 13 then (inB (varsL n) x.f1 && (!inside && wholeB es x.f3)) else if x.f0 = 14 then callZ ns k n x outs else true) := by
 unfold topU
 rw [h.vars, h.cons, h.cons, callB_tied h.nodes h.funs]
theorem exprB_leaf (made : Bool) (x : S42) (h : exprB made x = true) (h4 : x.f0 = 4 ∨ x.f0 = 3) : x.f4 = [] := by
 rw [exprB_eq] at h
 simp only [Bool.and_eq_true] at h
 have h1 := h.1
 unfold topB at h1
 simp only [Bool.and_eq_true] at h1
 have h2 := h1.2.2.2.2.1
 unfold kidsOk at h2
 simp only [Bool.and_eq_true, decide_eq_true_eq] at h2
 have h3 : (wantsOf made x.f0).many = 0 := by rcases h4 with e | e <;> rw [e] <;> rfl
 rw [h3] at h2
 exact List.eq_nil_of_length_eq_zero (by omega)
def ZUses (es : List S38) (ns : List S35) (Ae An : Option Addr) (ce cn : Nat) (k : Nat) (w0 : World) (n : S35) (m : Mp) (vs fs : ByteArray → Option Int) (made : Bool) (x : S42) : Prop := ∀ (w : World) (csx : List Value) (inside : Bool) (outs : Int), k42.K w0 x csx → Below w0.heap.size w0 w → exprB made x = true →
 Calls Tryz.prog 59 #[.agg #[.slice Ae es.length ce, .slice An ns.length cn], .int .i64 (k : Int), .agg csx.toArray, .bool inside, .int .i64 outs] w fun e w' => e = .returned (.bool (usesB m vs fs es ns x inside outs)) ∧ Below w.heap.size w w'
set_option maxHeartbeats 16000000 in
theorem zuses_step (es : List S38) (ns : List S35) (Ae An : Option Addr) (ce cn : Nat) (k : Nat) (w0 : World) (n : S35) (m : Mp) (vs fs : ByteArray → Option Int) (made : Bool) (hE : k38.C w0 Ae es.length es) (hce : es.length ≤ ce) (hN : k35.C w0 An ns.length ns) (hcn : ns.length ≤ cn) (hk : k < ns.length) (hnk : ns.getD k z35 = n) (hsz : n.f1.length ≤ 100) (hvl : (varsL n).length ≤ 1048576) (ht : Tied es ns k n m vs fs) (x : S42) (ih : ∀ i, i < x.f4.length → ZUses es ns Ae An ce cn k w0 n m vs fs made (x.f4.getD i z42)) : ZUses es ns Ae An ce cn k w0 n m vs fs made x := by
 intro w csx inside outs hK hw hx
 obtain ⟨A3, c3, A4, c4, rfl, l3, g3, l4, g4⟩ := k42_open hK
 have HKX := Aside0.mk hK
 have L3 := Aside0.mk l3; have G3 := Aside0.mk g3; clear l3 g3
 have L4 := Aside0.mk l4; have G4 := Aside0.mk g4; clear l4 g4
 have HX := Aside0.mk (Below.refl w.heap.size w); have HB := Aside0.mk hw
 have IH := Aside0.mk ih
 have HWH := Aside0.mk (exprB_when made x hx)
 have HKD := Aside0.mk (exprB_kid made x hx)
 have HLF := Aside0.mk (exprB_leaf made x hx)
 have HE := Aside0.mk hE; have HCE := Aside0.mk hce; have HN := Aside0.mk hN; have HCN := Aside0.mk hcn; have HKL := Aside0.mk hk; have HVL := Aside0.mk hvl
 have hwh := fun (W : World) (hB : Below w0.heap.size w0 W) => zall_calls es ns Ae An ce cn x.f3 A3 c3 W (Kd.C_below hE hB) hce (Kd.C_below hN hB) hcn (Kd.C_below G3.out hB) L3.out
 have hca := fun (W : World) (hB : Below w0.heap.size w0 W) => zcall_calls es ns Ae An ce cn k w0 W hN hcn hk n hnk hsz x _ hK hB outs
 have hcn2 := fun (W : World) (hB : Below w0.heap.size w0 W) (s : ByteArray) => zcon_calls es ns Ae An ce cn s W (Kd.C_below hE hB) hce (Kd.C_below hN hB) hcn
 have HF := Aside0.mk (usesB_eq m vs fs es ns x inside outs)
 have HTU := Aside0.mk (topU_tied ht x inside outs)
 generalize topU m vs fs es ns x inside outs = top at HF HTU
 generalize wholeB es x.f3 = wb at hwh HTU
 generalize callZ ns k n x outs = cb at hca HTU
 have HUR := Aside0.mk (show usesL m vs fs es ns (x.f4.drop 0) (inside || (x.f0 == 13)) (if (0 : Nat) = 0 then (if x.f0 = 15 then outs else 1) else 1) = usesL m vs fs es ns x.f4 (inside || (x.f0 == 13)) (if x.f0 = 15 then outs else 1) by rw [List.drop_zero, if_pos rfl])
 have HLR := Aside0.mk (show (x.f0 = 4 ∨ x.f0 = 3) → usesL m vs fs es ns x.f4 (inside || (x.f0 == 13)) (if x.f0 = 15 then outs else 1) = true from fun h => by rw [exprB_leaf made x hx h]; rfl)
 generalize usesL m vs fs es ns x.f4 (inside || (x.f0 == 13)) (if x.f0 = 15 then outs else 1) = R at HF HUR HLR
 have hkz : (k : Int) < (ns.length : Int) := by omega
 clear hK hw hx ih hsz hvl ht
 have hu1 := Tryz.underlying25; have hu2 := Tryz.underlying35; have hu3 := Tryz.underlying42
 obtain ⟨nad, ncs, rfl, _, nK, ncc⟩ := Kd.C_get hN z35 (k : Int) (by omega) (by omega)
 have nK' := nK
 obtain ⟨nA1, nc1, nA2, nc2, nA3, nc3, nA4, nc4, rfl, nl1, ng1, nl2, ng2, nl3, ng3, nl4, ng4⟩ := k35_open nK'
 have nx0 := (HB.out.cell (World.block_lt_of_cell? w0 _ (ncc 0 _ rfl))).trans (ncc 0 _ rfl)
 have nx1 := (HB.out.cell (World.block_lt_of_cell? w0 _ (ncc 1 _ rfl))).trans (ncc 1 _ rfl)
 have nx2 := (HB.out.cell (World.block_lt_of_cell? w0 _ (ncc 2 _ rfl))).trans (ncc 2 _ rfl)
 have nx3 := (HB.out.cell (World.block_lt_of_cell? w0 _ (ncc 3 _ rfl))).trans (ncc 3 _ rfl)
 have nx4 := (HB.out.cell (World.block_lt_of_cell? w0 _ (ncc 4 _ rfl))).trans (ncc 4 _ rfl)
 rw [show (k35).sz = 5 from rfl, Nat.add_zero, Int.toNat_natCast] at nx0
 rw [show (k35).sz = 5 from rfl, Int.toNat_natCast, add_field _ _ 1 (by omega)] at nx1
 rw [show (k35).sz = 5 from rfl, Int.toNat_natCast, add_field _ _ 2 (by omega)] at nx2
 rw [show (k35).sz = 5 from rfl, Int.toNat_natCast, add_field _ _ 3 (by omega)] at nx3
 rw [show (k35).sz = 5 from rfl, Int.toNat_natCast, add_field _ _ 4 (by omega)] at nx4
 clear ncc
 try simp only [Int.toNat_natCast] at nx0 nx1 nx2 nx3 nx4 nK nl1 ng1 nl2 ng2 nl3 ng3 nl4 ng4
 rw [hnk] at nx0 nx1 nx2 nx3 nx4 nK nl1 ng1 nl2 ng2 nl3 ng3 nl4 ng4
 skip
 have NK := Aside0.mk nK
 clear nK nl1 ng1 nl2 ng2 nl3 ng3 nl4 ng4 hE hce hcn hN hnk
 have hva := fun (W : World) (hB : Below w0.heap.size w0 W) => rvars_calls n W _ (Kd.K_below _ hB NK.out) (by have := HVL.out; omega)
 generalize hvs : varsL n = vars at hva HVL HTU
 clear hvs
 go_enter Tryz.func59, Tryz.ntmps59
 go_upto_region 1 with (first | ((with_reducible refine gate_dst (N := 5) rfl ?_); refine box_event ?hg (N := 5) ?hd (cs := #[.slice Ae es.length ce, .slice (some nad) ns.length cn]) (t := 25) ?hr ?_; (case hd => rfl); (case hg => rfl); (case hr => first | (go_simp; done) | (go_simp; rfl)); intro g5 hg_ w_5 hbox hb; have B5 := Aside0.mk hbox; have LB5 := Aside0.mk ((by rw [hg_]; exact below_size HB.out) : w0.heap.size ≤ g5); replace HB := Aside0.mk (below_step HB.out hb); replace HX := Aside0.mk (below_step HX.out hb); clear hb hbox hg_) | ((with_reducible refine gate_dst (N := 7) rfl ?_); refine box_event ?hg (N := 7) ?hd (cs := #[.int .i64 x.f0, .string x.f1, .int .i64 x.f2, .slice A3 (x.f3).length c3, .slice A4 (x.f4).length c4]) (t := 42) ?hr ?_; (case hd => rfl); (case hg => rfl); (case hr => first | (go_simp; done) | (go_simp; rfl)); intro g7 hg_ w_7 hbox hb; replace B5 := Aside0.mk (below_blk B5.out hb); have B7 := Aside0.mk hbox; have LB7 := Aside0.mk ((by rw [hg_]; exact below_size HB.out) : w0.heap.size ≤ g7); replace HB := Aside0.mk (below_step HB.out hb); replace HX := Aside0.mk (below_step HX.out hb); clear hb hbox hg_))
 have hn0 := (HX.out.cell (World.block_lt_of_cell? w _ nx0)).trans nx0
 have hn1 := (HX.out.cell (World.block_lt_of_cell? w _ nx1)).trans nx1
 have hn2 := (HX.out.cell (World.block_lt_of_cell? w _ nx2)).trans nx2
 have hn3 := (HX.out.cell (World.block_lt_of_cell? w _ nx3)).trans nx3
 have hn4 := (HX.out.cell (World.block_lt_of_cell? w _ nx4)).trans nx4
 have c5_0 := (blk_cell B5.out 0).trans rfl
 have c5_1 := (blk_cell B5.out 1).trans rfl
 go_wp2_with fail
 refine (hva _ HB.out).mono ?_
 rintro e w8 ⟨A11, c11, rfl, h11c, h11, hb_⟩
 have H11C := Aside0.mk h11c; have H11 := Aside0.mk h11
 replace B5 := Aside0.mk (below_blk B5.out hb_); replace B7 := Aside0.mk (below_blk B7.out hb_)
 replace HX := Aside0.mk (below_step HX.out hb_); replace HB := Aside0.mk (below_step HB.out hb_)
 clear h11c h11 hb_ hva hkz nx0 hn0 nx1 hn1 nx2 hn2 nx3 hn3 nx4 hn4
 clear c5_0 c5_1
 have HK := Aside0.mk (Below.refl w8.heap.size w8)
 have c7_0 := (blk_cell B7.out 0).trans rfl
 have c7_1 := (blk_cell B7.out 1).trans rfl
 have c7_2 := (blk_cell B7.out 2).trans rfl
 have c7_3 := (blk_cell B7.out 3).trans rfl
 have c7_4 := (blk_cell B7.out 4).trans rfl
 go_upto_block 0 with (fail)
 have hhas := fun (W : World) (hB : Below w8.heap.size w8 W) => zhas_below A11 c11 vars x.f1 W (Kd.C_below H11.out hB) H11C.out (by have := HVL.out; omega)
 generalize hqv : inB vars x.f1 = qv at hhas HTU
 clear hqv
 go_cut [] from 12 to 94 (fun wx => Aside0 (top = true) ∧ Aside0 (Below w8.heap.size w8 wx))
 case first =>
   by_cases e4 : x.f0 = 4
   · have t4 : (x.f0 == 4) = true := by rw [e4]; rfl
     have HT := Aside0.mk (show top = qv by rw [HTU.out, if_pos e4])
     have HR := Aside0.mk (HLR.out (.inl e4))
     clear hwh hca hcn2 HTU e4
     go_wp2_with fail
     refine (hhas _ HK.out).mono ?_
     rintro e w9 ⟨rfl, hb_⟩
     replace HK := Aside0.mk (below_step HK.out hb_)
     clear hb_ hhas
     clear c7_0 c7_1 c7_2 c7_3 c7_4
     go_wp2_with fail
     go_ret
     exact ⟨by rw [HF.out, HT.out, HR.out, Bool.and_true]; rfl, below_step HX.out HK.out⟩
   by_cases e3 : x.f0 = 3
   · have t4 : (x.f0 == 4) = false := ne_bool (by omega)
     have t3 : (x.f0 == 3) = true := by rw [e3]; rfl
     have HT := Aside0.mk (show top = (conR es x.f1).2.2 by rw [HTU.out, if_neg (by omega), if_pos e3])
     have HR := Aside0.mk (HLR.out (.inr e3))
     clear hwh hca hhas HTU e3 e4
     have c5_0 := (blk_cell B5.out 0).trans rfl
     have c5_1 := (blk_cell B5.out 1).trans rfl
     go_wp2_with fail
     refine (hcn2 _ HB.out x.f1).mono ?_
     rintro e w9 ⟨rfl, hb_⟩
     replace HK := Aside0.mk (below_step HK.out hb_)
     clear hb_ hcn2
     clear c7_0 c7_1 c7_2 c7_3 c7_4
     clear c5_0 c5_1
     go_wp2_with fail
     go_ret
     exact ⟨by rw [HF.out, HT.out, HR.out, Bool.and_true]; rfl, below_step HX.out HK.out⟩
   by_cases e11 : x.f0 = 11
   · have t11 : (x.f0 == 11) = true := by rw [e11]; rfl
     have t4 : (x.f0 == 4) = false := ne_bool (by omega)
     have t3 : (x.f0 == 3) = false := ne_bool (by omega)
     have hp3 := HWH.out e11
     have hp3z : (0 : Int) < (x.f3.length : Int) := by omega
     have HT := Aside0.mk (show top = (qv && ((conR es (x.f3.getD 0 (⟨#[]⟩ : ByteArray))).2.2 && !inside)) by rw [HTU.out, if_neg e4, if_neg e3, if_pos e11])
     clear HTU e4 e3 e11 hwh hca
     obtain ⟨cad, ccs, hc_, _, cK, ccc⟩ := Kd.C_get G3.out (⟨#[]⟩ : ByteArray) ((0 : Nat) : Int) (by omega) (by omega)
     obtain rfl := cK
     subst hc_
     have cx0 := (HB.out.cell (World.block_lt_of_cell? w0 _ (ccc 0 _ rfl))).trans (ccc 0 _ rfl)
     simp only [show Kd.string.sz = 1 from rfl, Nat.mul_one, Nat.add_zero, Int.toNat_natCast] at cx0
     clear ccc
     try simp only [Int.toNat_natCast] at cx0
     generalize Yc00 : x.f3.getD 0 (⟨#[]⟩ : ByteArray) = c0 at HT cx0
     have Yc0 := Aside0.mk Yc00; clear Yc00
     try simp only [Nat.zero_mul, add_zero'] at cx0
     have c5_0 := (blk_cell B5.out 0).trans rfl
     have c5_1 := (blk_cell B5.out 1).trans rfl
     go_wp2_with fail
     go_cut [17] from 47 to 56 (fun s_ wx => s_ = .bool (conR es c0).2.2 ∧ Aside0 (Below w8.heap.size w8 wx))
     case first =>
       go_region_with (with_reducible refine (hcn2 _ (below_drew1 HB.out) c0).mono ?_; rintro e w13 ⟨rfl, hb_⟩; have HK_ := Aside0.mk (below_step (below_drew1 HK.out) hb_); clear hb_)
       all_goals
         go_wp2_with fail
         go_meet
         case rel => exact ⟨rfl, HK_⟩
     case rest =>
       clear HK hcn2 cx0
       clear c5_0 c5_1
       clear c7_0 c7_1 c7_2 c7_3 c7_4
       obtain ⟨rfl, HK⟩ := hcut
       generalize (conR es c0).2.2 = qc at HT ⊢
       have B7x := Aside0.mk (below_blk B7.out HK.out)
       have c7_0 := (blk_cell B7x.out 0).trans rfl
       have c7_1 := (blk_cell B7x.out 1).trans rfl
       have c7_2 := (blk_cell B7x.out 2).trans rfl
       have c7_3 := (blk_cell B7x.out 3).trans rfl
       have c7_4 := (blk_cell B7x.out 4).trans rfl
       cases inside with
       | true =>
         have HT2 := Aside0.mk (show top = false by rw [HT.out]; cases qv <;> cases qc <;> rfl)
         go_wp2_with fail
         go_ret
         exact ⟨by rw [HF.out, HT2.out]; rfl, below_step HX.out HK.out⟩
       | false =>
       go_wp2_with fail
       refine (hhas _ HK.out).mono ?_
       rintro e w14 ⟨rfl, hb_⟩
       replace HK := Aside0.mk (below_step HK.out hb_)
       clear hb_ hhas B7x
       clear c7_0 c7_1 c7_2 c7_3 c7_4
       cases qv with
       | false =>
         go_wp2_with fail
         go_ret
         exact ⟨by rw [HF.out, HT.out]; rfl, below_step HX.out HK.out⟩
       | true =>
       cases qc with
       | false =>
         go_wp2_with fail
         go_ret
         exact ⟨by rw [HF.out, HT.out]; rfl, below_step HX.out HK.out⟩
       | true =>
         have HT2 := Aside0.mk (show top = true by rw [HT.out]; rfl)
         go_wp2_with fail
         go_meet
         case rel => exact ⟨HT2, HK⟩
   by_cases e12 : x.f0 = 12 ∨ x.f0 = 13
   · rcases e12 with e | e
     · skip
       have t12 : (x.f0 == 12) = true := by rw [e]; rfl
       have t4 : (x.f0 == 4) = false := ne_bool (by omega)
       have t3 : (x.f0 == 3) = false := ne_bool (by omega)
       have t11 : (x.f0 == 11) = false := ne_bool (by omega)
       have HT := Aside0.mk (show top = (qv && (!inside && wb)) by rw [HTU.out, if_neg e4, if_neg e3, if_neg e11, if_pos (by omega)])
       clear HTU e4 e3 e11 e hca hcn2
       have c5_0 := (blk_cell B5.out 0).trans rfl
       have c5_1 := (blk_cell B5.out 1).trans rfl
       cases inside with
       | true =>
         have HT2 := Aside0.mk (show top = false by rw [HT.out]; cases qv <;> cases wb <;> rfl)
         go_wp2_with fail
         go_ret
         exact ⟨by rw [HF.out, HT2.out]; rfl, below_step HX.out HK.out⟩
       | false =>
       go_wp2_with fail
       refine (hhas _ HK.out).mono ?_
       rintro e w14 ⟨rfl, hb_⟩
       replace HK := Aside0.mk (below_step HK.out hb_)
       clear hb_ hhas
       clear c5_0 c5_1
       clear c7_0 c7_1 c7_2 c7_3 c7_4
       cases qv with
       | false =>
         go_wp2_with fail
         go_ret
         exact ⟨by rw [HF.out, HT.out]; rfl, below_step HX.out HK.out⟩
       | true =>
       have HBr := Aside0.mk (below_step HB.out HK.out)
       have B7x := Aside0.mk (below_blk B7.out HK.out)
       have c7_0 := (blk_cell B7x.out 0).trans rfl
       have c7_1 := (blk_cell B7x.out 1).trans rfl
       have c7_2 := (blk_cell B7x.out 2).trans rfl
       have c7_3 := (blk_cell B7x.out 3).trans rfl
       have c7_4 := (blk_cell B7x.out 4).trans rfl
       have B5x := Aside0.mk (below_blk B5.out HK.out)
       have c5_0 := (blk_cell B5x.out 0).trans rfl
       have c5_1 := (blk_cell B5x.out 1).trans rfl
       go_wp2_with fail
       refine (hwh _ HBr.out).mono ?_
       rintro e w15 ⟨rfl, hb_⟩
       replace HK := Aside0.mk (below_step HK.out hb_)
       clear hb_ hwh HBr B5x B7x
       clear c5_0 c5_1
       clear c7_0 c7_1 c7_2 c7_3 c7_4
       cases wb with
       | false =>
         go_wp2_with fail
         go_ret
         exact ⟨by rw [HF.out, HT.out]; rfl, below_step HX.out HK.out⟩
       | true =>
         have HT2 := Aside0.mk (show top = true by rw [HT.out]; rfl)
         go_wp2_with fail
         go_meet
         case rel => exact ⟨HT2, HK⟩
     · skip
       have t13 : (x.f0 == 13) = true := by rw [e]; rfl
       have t4 : (x.f0 == 4) = false := ne_bool (by omega)
       have t3 : (x.f0 == 3) = false := ne_bool (by omega)
       have t11 : (x.f0 == 11) = false := ne_bool (by omega)
       have t12 : (x.f0 == 12) = false := ne_bool (by omega)
       have HT := Aside0.mk (show top = (qv && (!inside && wb)) by rw [HTU.out, if_neg e4, if_neg e3, if_neg e11, if_pos (by omega)])
       clear HTU e4 e3 e11 e hca hcn2
       have c5_0 := (blk_cell B5.out 0).trans rfl
       have c5_1 := (blk_cell B5.out 1).trans rfl
       cases inside with
       | true =>
         have HT2 := Aside0.mk (show top = false by rw [HT.out]; cases qv <;> cases wb <;> rfl)
         go_wp2_with fail
         go_ret
         exact ⟨by rw [HF.out, HT2.out]; rfl, below_step HX.out HK.out⟩
       | false =>
       go_wp2_with fail
       refine (hhas _ HK.out).mono ?_
       rintro e w14 ⟨rfl, hb_⟩
       replace HK := Aside0.mk (below_step HK.out hb_)
       clear hb_ hhas
       clear c5_0 c5_1
       clear c7_0 c7_1 c7_2 c7_3 c7_4
       cases qv with
       | false =>
         go_wp2_with fail
         go_ret
         exact ⟨by rw [HF.out, HT.out]; rfl, below_step HX.out HK.out⟩
       | true =>
       have HBr := Aside0.mk (below_step HB.out HK.out)
       have B7x := Aside0.mk (below_blk B7.out HK.out)
       have c7_0 := (blk_cell B7x.out 0).trans rfl
       have c7_1 := (blk_cell B7x.out 1).trans rfl
       have c7_2 := (blk_cell B7x.out 2).trans rfl
       have c7_3 := (blk_cell B7x.out 3).trans rfl
       have c7_4 := (blk_cell B7x.out 4).trans rfl
       have B5x := Aside0.mk (below_blk B5.out HK.out)
       have c5_0 := (blk_cell B5x.out 0).trans rfl
       have c5_1 := (blk_cell B5x.out 1).trans rfl
       go_wp2_with fail
       refine (hwh _ HBr.out).mono ?_
       rintro e w15 ⟨rfl, hb_⟩
       replace HK := Aside0.mk (below_step HK.out hb_)
       clear hb_ hwh HBr B5x B7x
       clear c5_0 c5_1
       clear c7_0 c7_1 c7_2 c7_3 c7_4
       cases wb with
       | false =>
         go_wp2_with fail
         go_ret
         exact ⟨by rw [HF.out, HT.out]; rfl, below_step HX.out HK.out⟩
       | true =>
         have HT2 := Aside0.mk (show top = true by rw [HT.out]; rfl)
         go_wp2_with fail
         go_meet
         case rel => exact ⟨HT2, HK⟩
   by_cases e14 : x.f0 = 14
   · have t14 : (x.f0 == 14) = true := by rw [e14]; rfl
     have HT := Aside0.mk (show top = cb by rw [HTU.out, if_neg e4, if_neg e3, if_neg e11, if_neg e12, if_pos e14])
     clear HTU
     have t4 : (x.f0 == 4) = false := ne_bool (by omega)
     have t3 : (x.f0 == 3) = false := ne_bool (by omega)
     have t11 : (x.f0 == 11) = false := ne_bool (by omega)
     have t12 : (x.f0 == 12) = false := ne_bool (by omega)
     have t13 : (x.f0 == 13) = false := ne_bool (by omega)
     clear e14 e4 e3 e11 e12 hwh hcn2 hhas
     have c5_0 := (blk_cell B5.out 0).trans rfl
     have c5_1 := (blk_cell B5.out 1).trans rfl
     go_wp2_with fail
     refine (hca _ HB.out).mono ?_
     rintro e w9 ⟨rfl, hb_⟩
     replace HK := Aside0.mk (below_step HK.out hb_)
     clear hb_ hca
     clear c5_0 c5_1
     clear c7_0 c7_1 c7_2 c7_3 c7_4
     cases cb with
     | false =>
       go_wp2_with fail
       go_ret
       exact ⟨by rw [HF.out, HT.out]; rfl, below_step HX.out HK.out⟩
     | true =>
       go_wp2_with fail
       go_meet
       case rel => exact ⟨HT, HK⟩
   have HT := Aside0.mk (show top = true by rw [HTU.out, if_neg e4, if_neg e3, if_neg e11, if_neg e12, if_neg e14])
   clear HTU
   have t4 : (x.f0 == 4) = false := ne_bool (by omega)
   have t3 : (x.f0 == 3) = false := ne_bool (by omega)
   have t11 : (x.f0 == 11) = false := ne_bool (by omega)
   have t12 : (x.f0 == 12) = false := ne_bool (by omega)
   have t13 : (x.f0 == 13) = false := ne_bool (by omega)
   have t14 : (x.f0 == 14) = false := ne_bool (by omega)
   clear e14 e4 e3 e11 e12 hwh hca hcn2 hhas
   go_wp2_with fail
   go_meet
   case rel => exact ⟨HT, HK⟩
 case rest =>
   clear HK hwh hca hcn2 hhas HTU HLR
   clear c7_0 c7_1 c7_2 c7_3 c7_4
   obtain ⟨HT, HK⟩ := hcut
   have HF2 := Aside0.mk (show usesB m vs fs es ns x inside outs = R by rw [HF.out, HT.out, Bool.true_and])
   clear HF HT
   go_wp2_with fail
   go_loopg [18] x.f4.length (fun gg s_ wr => ∃ kk : Nat, kk ≤ x.f4.length ∧ x.f4.length - kk ≤ gg ∧ s_ = .int .i64 kk ∧ Aside0 (Below w8.heap.size w8 wr) ∧ Aside0 (usesL m vs fs es ns (x.f4.drop kk) (inside || (x.f0 == 13)) (if kk = 0 then (if x.f0 = 15 then outs else 1) else 1) = R))
   case atStart => exact ⟨0, Nat.zero_le _, by omega, rfl, HK, HUR⟩
   case round =>
     clear HK HUR
     obtain ⟨kk, hkk, hg, rfl, HK, U⟩ := hrel
     have hmx : x.f4.length ≤ 9223372036854775807 := (G4.out).2.1
     have HBr := Aside0.mk (below_step HB.out HK.out)
     by_cases hlt : kk < x.f4.length
     · have hltz : (kk : Int) < (x.f4.length : Int) := by omega
       have hst := usesL_step m vs fs es ns x.f4 kk hlt (inside || (x.f0 == 13)) (if kk = 0 then (if x.f0 = 15 then outs else 1) else 1)
       have hih := IH.out kk hlt
       have hkd := HKD.out kk hlt
       obtain ⟨yad, ycs, hy_, _, yK, ycc⟩ := Kd.C_get G4.out z42 (kk : Int) (by omega) (by omega)
       subst hy_; have yK' := yK
       obtain ⟨yA3, yc3, yA4, yc4, rfl, yl3, yg3, yl4, yg4⟩ := k42_open yK'
       have yx0 := (HBr.out.cell (World.block_lt_of_cell? w0 _ (ycc 0 _ rfl))).trans (ycc 0 _ rfl)
       have yx1 := (HBr.out.cell (World.block_lt_of_cell? w0 _ (ycc 1 _ rfl))).trans (ycc 1 _ rfl)
       have yx2 := (HBr.out.cell (World.block_lt_of_cell? w0 _ (ycc 2 _ rfl))).trans (ycc 2 _ rfl)
       have yx3 := (HBr.out.cell (World.block_lt_of_cell? w0 _ (ycc 3 _ rfl))).trans (ycc 3 _ rfl)
       have yx4 := (HBr.out.cell (World.block_lt_of_cell? w0 _ (ycc 4 _ rfl))).trans (ycc 4 _ rfl)
       rw [show (k42).sz = 5 from rfl, Nat.add_zero, Int.toNat_natCast] at yx0
       rw [show (k42).sz = 5 from rfl, Int.toNat_natCast, add_field _ _ 1 (by omega)] at yx1
       rw [show (k42).sz = 5 from rfl, Int.toNat_natCast, add_field _ _ 2 (by omega)] at yx2
       rw [show (k42).sz = 5 from rfl, Int.toNat_natCast, add_field _ _ 3 (by omega)] at yx3
       rw [show (k42).sz = 5 from rfl, Int.toNat_natCast, add_field _ _ 4 (by omega)] at yx4
       have yw0 := ycc 0 _ rfl
       have yw1 := ycc 1 _ rfl
       have yw2 := ycc 2 _ rfl
       have yw3 := ycc 3 _ rfl
       have yw4 := ycc 4 _ rfl
       rw [show (k42).sz = 5 from rfl, Nat.add_zero, Int.toNat_natCast] at yw0
       rw [show (k42).sz = 5 from rfl, Int.toNat_natCast, add_field _ _ 1 (by omega)] at yw1
       rw [show (k42).sz = 5 from rfl, Int.toNat_natCast, add_field _ _ 2 (by omega)] at yw2
       rw [show (k42).sz = 5 from rfl, Int.toNat_natCast, add_field _ _ 3 (by omega)] at yw3
       rw [show (k42).sz = 5 from rfl, Int.toNat_natCast, add_field _ _ 4 (by omega)] at yw4
       try simp only [Int.toNat_natCast] at yw0 yw1 yw2 yw3 yw4
       clear ycc
       try simp only [Int.toNat_natCast] at yx0 yx1 yx2 yx3 yx4 yK yl3 yg3 yl4 yg4
       generalize Yy0 : x.f4.getD kk z42 = y at hst hih hkd yw0 yw1 yw2 yw3 yw4 yx0 yx1 yx2 yx3 yx4 yK yl3 yg3 yl4 yg4
       have Yy := Aside0.mk Yy0; clear Yy0
       have HST := Aside0.mk hst
       have hcall := fun (W : World) (i : Bool) (q : Int) (hB : Below w0.heap.size w0 W) => hih W _ i q yK hB hkd
       clear hst hih hkd yl3 yg3 yl4 yg4 yK; have HY0 := Aside0.mk yw0; have HY1 := Aside0.mk yw1; have HY2 := Aside0.mk yw2; have HY3 := Aside0.mk yw3; have HY4 := Aside0.mk yw4; clear yw0 yw1 yw2 yw3 yw4
       have B7x := Aside0.mk (below_blk B7.out HK.out)
       have c7_0 := (blk_cell B7x.out 0).trans rfl
       have c7_1 := (blk_cell B7x.out 1).trans rfl
       have c7_2 := (blk_cell B7x.out 2).trans rfl
       have c7_3 := (blk_cell B7x.out 3).trans rfl
       have c7_4 := (blk_cell B7x.out 4).trans rfl
       go_upto_region 23 with fail
       go_cut [108] from 102 to 125 (fun s_ wx => ∃ q : Bool, s_ = .bool q ∧ Aside0 ((if kk = 0 then (if x.f0 = 15 then outs else 1) else 1) = cond q outs 1) ∧ Aside0 (Below w8.heap.size w8 wx))
       case first =>
         clear hcall HST U
         by_cases e15 : x.f0 = 15
         · have t15 : (x.f0 == 15) = true := by rw [e15]; rfl
           cases hkb : ((kk : Int) == 0) with
           | true =>
             have HN2 := Aside0.mk (show (if kk = 0 then (if x.f0 = 15 then outs else 1) else 1) = cond true outs 1 by rw [if_pos (by have := of_beq_eq_true' hkb; omega), if_pos e15]; rfl)
             clear e15
             go_wp2_with fail
             go_meet
             case rel => exact ⟨_, rfl, HN2, HK⟩
           | false =>
             have HN2 := Aside0.mk (show (if kk = 0 then (if x.f0 = 15 then outs else 1) else 1) = cond false outs 1 by rw [if_neg (by have := ne_of_beq' hkb; omega)]; rfl)
             clear e15
             go_wp2_with fail
             go_meet
             case rel => exact ⟨_, rfl, HN2, HK⟩
         · have t15 : (x.f0 == 15) = false := ne_bool e15
           have HN2 := Aside0.mk (show (if kk = 0 then (if x.f0 = 15 then outs else 1) else 1) = cond false outs 1 by rw [if_neg e15, ite_self]; rfl)
           clear e15
           go_wp2_with fail
           go_meet
           case rel => exact ⟨_, rfl, HN2, HK⟩
       case rest =>
         clear HK HBr B7x yx0 yx1 yx2 yx3 yx4
         clear c7_0 c7_1 c7_2 c7_3 c7_4
         obtain ⟨q, rfl, HQN, HK⟩ := hcut
         go_upto_if 108 with (fail)
         go_cut [19] from 102 to 125 (fun s_ wx => ∃ nv : Int, s_ = .int .i64 nv ∧ Aside0 ((if kk = 0 then (if x.f0 = 15 then outs else 1) else 1) = nv) ∧ Aside0 (Below w8.heap.size w8 wx))
         case first =>
           clear hcall HST U
           cases q with
           | true =>
             have HN2 := Aside0.mk (show (if kk = 0 then (if x.f0 = 15 then outs else 1) else 1) = outs from HQN.out)
             clear HQN
             go_wp2_with fail
             go_meet
             case rel => exact ⟨_, rfl, HN2, HK⟩
           | false =>
             have HN2 := Aside0.mk (show (if kk = 0 then (if x.f0 = 15 then outs else 1) else 1) = 1 from HQN.out)
             clear HQN
             go_wp2_with fail
             go_meet
             case rel => exact ⟨_, rfl, HN2, HK⟩
         case rest =>
           clear HQN HK
           obtain ⟨nv, rfl, HN2, HK⟩ := hcut
           have HS2 := Aside0.mk (HST.out)
           have hs2 := HST.out
           rw [HN2.out] at hs2
           have hu0 := U.out
           rw [HN2.out, hs2] at hu0
           have HU0 := Aside0.mk hu0
           clear HST U HN2 hs2 hu0 HS2
           go_wp2_with fail
           have HBr := Aside0.mk (below_step HB.out HK.out)
           have B7x := Aside0.mk (below_blk B7.out HK.out)
           have c7_0 := (blk_cell B7x.out 0).trans rfl
           have c7_1 := (blk_cell B7x.out 1).trans rfl
           have c7_2 := (blk_cell B7x.out 2).trans rfl
           have c7_3 := (blk_cell B7x.out 3).trans rfl
           have c7_4 := (blk_cell B7x.out 4).trans rfl
           have B5x := Aside0.mk (below_blk B5.out HK.out)
           have c5_0 := (blk_cell B5x.out 0).trans rfl
           have c5_1 := (blk_cell B5x.out 1).trans rfl
           have yx0 := (HBr.out.cell (World.block_lt_of_cell? w0 _ HY0.out)).trans HY0.out
           have yx1 := (HBr.out.cell (World.block_lt_of_cell? w0 _ HY1.out)).trans HY1.out
           have yx2 := (HBr.out.cell (World.block_lt_of_cell? w0 _ HY2.out)).trans HY2.out
           have yx3 := (HBr.out.cell (World.block_lt_of_cell? w0 _ HY3.out)).trans HY3.out
           have yx4 := (HBr.out.cell (World.block_lt_of_cell? w0 _ HY4.out)).trans HY4.out
           cases inside with
           | true =>
             have hu1_ := HU0.out
             rw [Bool.true_or] at hu1_
             replace HU0 := Aside0.mk hu1_; clear hu1_
             go_still_tail 14, (by kernel_rfl)
             change wpList _ _ _ _ _ (World.drew wc)
             have HK_ := Aside0.mk (below_drew1 HK.out); clear HK
             clear HBr B5x B7x yx0 yx1 yx2 yx3 yx4 c5_0 c5_1 c7_0 c7_1 c7_2 c7_3 c7_4
             generalize World.drew wc = w9 at HK_ ⊢
             have HK := HK_; clear HK_
             have HBr := Aside0.mk (below_step HB.out HK.out)
             go_wp2_with fail
             with_reducible refine (hcall _ true nv HBr.out).mono ?_
             rintro e w13 ⟨rfl, hb_⟩
             replace HK := Aside0.mk (below_step HK.out hb_)
             clear hb_ HBr hcall
             generalize usesB m vs fs es ns y true nv = u at HU0 ⊢
             cases u with
             | false =>
               have HR := Aside0.mk (show R = false by rw [← HU0.out]; rfl)
               go_wp2_with fail
               go_ret
               exact ⟨by rw [HF2.out, HR.out]; rfl, below_step HX.out HK.out⟩
             | true =>
               have HR := Aside0.mk (show usesL m vs fs es ns (x.f4.drop (kk + 1)) true (if kk + 1 = 0 then (if x.f0 = 15 then outs else 1) else 1) = R by rw [if_neg (Nat.succ_ne_zero _), ← HU0.out]; rfl)
               go_wp2_with fail
               go_roundg (x.f4.length - (kk + 1))
               case measure => omega
               case rel => exact ⟨kk + 1, by omega, by omega, by go_num, HK, ⟨by have h_ := HR.out; simpa using h_⟩⟩
           | false =>
             have hu1_ := HU0.out
             rw [Bool.false_or] at hu1_
             replace HU0 := Aside0.mk hu1_; clear hu1_
             go_still_tail 14, (by kernel_rfl)
             change wpList _ _ _ _ _ (World.drew wc)
             have HK_ := Aside0.mk (below_drew1 HK.out); clear HK
             clear HBr B5x B7x yx0 yx1 yx2 yx3 yx4 c5_0 c5_1 c7_0 c7_1 c7_2 c7_3 c7_4
             generalize World.drew wc = w9 at HK_ ⊢
             have HK := HK_; clear HK_
             have HBr := Aside0.mk (below_step HB.out HK.out)
             go_wp2_with fail
             with_reducible refine (hcall _ _ nv HBr.out).mono ?_
             rintro e w13 ⟨rfl, hb_⟩
             replace HK := Aside0.mk (below_step HK.out hb_)
             clear hb_ HBr hcall
             generalize usesB m vs fs es ns y (x.f0 == 13) nv = u at HU0 ⊢
             cases u with
             | false =>
               have HR := Aside0.mk (show R = false by rw [← HU0.out]; rfl)
               go_wp2_with fail
               go_ret
               exact ⟨by rw [HF2.out, HR.out]; rfl, below_step HX.out HK.out⟩
             | true =>
               have HR := Aside0.mk (show usesL m vs fs es ns (x.f4.drop (kk + 1)) (x.f0 == 13) (if kk + 1 = 0 then (if x.f0 = 15 then outs else 1) else 1) = R by rw [if_neg (Nat.succ_ne_zero _), ← HU0.out]; rfl)
               go_wp2_with fail
               go_roundg (x.f4.length - (kk + 1))
               case measure => omega
               case rel => exact ⟨kk + 1, by omega, by omega, by go_num, HK, ⟨by have h_ := HR.out; simpa using h_⟩⟩
     · have hltz : ¬ (kk : Int) < (x.f4.length : Int) := by omega
       obtain rfl : kk = x.f4.length := by omega
       have hr := U.out
       rw [List.drop_length] at hr
       have HR := Aside0.mk (show R = true from hr.symm)
       clear hr U
       have B7x := Aside0.mk (below_blk B7.out HK.out)
       have c7_0 := (blk_cell B7x.out 0).trans rfl
       have c7_1 := (blk_cell B7x.out 1).trans rfl
       have c7_2 := (blk_cell B7x.out 2).trans rfl
       have c7_3 := (blk_cell B7x.out 3).trans rfl
       have c7_4 := (blk_cell B7x.out 4).trans rfl
       go_wp2_with fail
       go_ret
       exact ⟨by rw [HF2.out, HR.out]; rfl, below_step HX.out HK.out⟩
theorem zuses_says (es : List S38) (ns : List S35) (Ae An : Option Addr) (ce cn : Nat) (k : Nat) (w0 : World) (n : S35) (m : Mp) (vs fs : ByteArray → Option Int) (made : Bool) (hE : k38.C w0 Ae es.length es) (hce : es.length ≤ ce) (hN : k35.C w0 An ns.length ns) (hcn : ns.length ≤ cn) (hk : k < ns.length) (hnk : ns.getD k z35 = n) (hsz : n.f1.length ≤ 100) (hvl : (varsL n).length ≤ 1048576) (ht : Tied es ns k n m vs fs) (q : Nat) : ∀ x : S42, SizeOf.sizeOf x ≤ q → ZUses es ns Ae An ce cn k w0 n m vs fs made x := by
 induction q with
 | zero => intro x h; exact absurd h (by cases x; simp)
 | succ q ih =>
   intro x h
   refine zuses_step es ns Ae An ce cn k w0 n m vs fs made hE hce hN hcn hk hnk hsz hvl ht x (fun i hi => ih _ ?_)
   have hm : x.f4.getD i z42 ∈ x.f4 := by rw [List.getD_eq_getElem?_getD, List.getElem?_eq_getElem hi]; exact List.getElem_mem hi
   have h1 := List.sizeOf_lt_of_mem hm
   have h2 : SizeOf.sizeOf x.f4 < SizeOf.sizeOf x := by cases x; simp; omega
   omega
end Go.Proofs.YtggfnbnochmkdaaGreat
