/- Package scope: whether all that an expression uses is there. -/
import Derived.Test.YtggfnbnochmkdaaGreatSh
namespace Go.Proofs.YtggfnbnochmkdaaGreat
open Go Go.RowKit Go.Lib Go.Proofs.YtggfnbnochmkdaaGreatW.PrintWords Go.Proofs.YtggfnbnochmkdaaGreat.PScope
set_option maxRecDepth 100000
set_option linter.unusedSimpArgs false
set_option linter.unusedVariables false
def topU (m : Mp) (vs fs : ByteArray → Option Int) (es : List S38) (ns : List S35) (x : S42) (inside : Bool) (outs : Int) : Bool :=
 if x.f0 = 4 then (vs x.f1).isSome else if x.f0 = 3 then m.cons x.f1 else if x.f0 = 11 then ((vs x.f1).isSome && (m.cons (x.f3.getD 0 (⟨#[]⟩ : ByteArray)) && !inside))
 else if x.f0 = 12 ∨ x.f0 = 13 then ((vs x.f1).isSome && (!inside && wholeB es x.f3)) else if x.f0 = 14 then callB m fs ns x outs else true
theorem drop_getD2 {α : Type} (l : List α) (z : α) (k : Nat) (h : k < l.length) : l.drop k = l.getD k z :: l.drop (k + 1) := by
 rw [List.drop_eq_getElem_cons h, List.getD_eq_getElem?_getD, List.getElem?_eq_getElem h]; rfl
mutual
def usesB (m : Mp) (vs fs : ByteArray → Option Int) (es : List S38) (ns : List S35) : S42 → Bool → Int → Bool
 | ⟨a, b, c, d, k⟩, inside, outs => topU m vs fs es ns ⟨a, b, c, d, k⟩ inside outs && usesL m vs fs es ns k (inside || (a == 13)) (if a = 15 then outs else 1)
def usesL (m : Mp) (vs fs : ByteArray → Option Int) (es : List S38) (ns : List S35) : List S42 → Bool → Int → Bool
 | [], _, _ => true
 | k :: r, inside, n => usesB m vs fs es ns k inside n && usesL m vs fs es ns r inside 1
end
theorem usesB_eq (m : Mp) (vs fs : ByteArray → Option Int) (es : List S38) (ns : List S35) (x : S42) (inside : Bool) (outs : Int) :
 usesB m vs fs es ns x inside outs = (topU m vs fs es ns x inside outs && usesL m vs fs es ns x.f4 (inside || (x.f0 == 13)) (if x.f0 = 15 then outs else 1)) := by cases x; rw [usesB]
theorem usesL_step (m : Mp) (vs fs : ByteArray → Option Int) (es : List S38) (ns : List S35) (l : List S42) (k : Nat) (h : k < l.length) (i : Bool) (n : Int) :
   usesL m vs fs es ns (l.drop k) i n = (usesB m vs fs es ns (l.getD k z42) i n && usesL m vs fs es ns (l.drop (k + 1)) i 1) := by
 rw [drop_getD2 l z42 k h, usesL]
theorem exprB_kid (made : Bool) (x : S42) (h : exprB made x = true) (i : Nat) (hi : i < x.f4.length) : exprB made (x.f4.getD i z42) = true := by
 rw [exprB_eq, exprsB_any] at h
 simp only [Bool.and_eq_true, Bool.not_eq_true'] at h
 have h2 := h.2
 cases hb : exprB made (x.f4.getD i z42) with
 | true => rfl
 | false => rw [any_getD_true x.f4 (fun k => !exprB made k) z42 i hi (by rw [hb]; rfl)] at h2; exact absurd h2 (by simp)
theorem exprB_when (made : Bool) (x : S42) (h : exprB made x = true) (h11 : x.f0 = 11) : 0 < x.f3.length := by
 rw [exprB_eq] at h
 simp only [Bool.and_eq_true] at h
 have h1 := h.1
 unfold topB at h1
 simp only [Bool.and_eq_true] at h1
 have h2 := h1.2.2.2.1
 unfold allB at h2
 simp only [Bool.and_eq_true, decide_eq_true_eq] at h2
 rw [h11] at h2
 have : (wantsOf made 11).least = 1 := rfl
 omega
theorem of_beq_eq_true' {a b : Int} (h : (a == b) = true) : a = b := by simpa using h
theorem ne_of_beq' {a b : Int} (h : (a == b) = false) : a ≠ b := by simpa using h
def UsesSays (es : List S38) (ns : List S35) (Ae An : Option Addr) (ce cn : Nat) (w0 : World) (base : Nat) (B : Bk) (I : Ik) (m : Mp) (n0 n1 n2 n3 n4 : Value) (vs fs : ByteArray → Option Int) (made : Bool) (x : S42) : Prop := ∀ (w : World) (csx : List Value) (inside : Bool) (outs : Int), k42.K w0 x csx → Below w0.heap.size w0 w → IAt base w B I (.slice Ae es.length ce) (.slice An ns.length cn) m n0 n1 n2 n3 n4 vs fs → exprB made x = true →
 Calls Tryz.prog 56 #[.pointer (some ⟨I.inn, 0, none⟩), .agg csx.toArray, .bool inside, .int .i64 outs] w fun e w' => e = .returned (.bool (usesB m vs fs es ns x inside outs)) ∧ Below w.heap.size w w'
set_option maxHeartbeats 16000000 in
theorem uses_step (es : List S38) (ns : List S35) (Ae An : Option Addr) (ce cn : Nat) (w0 : World) (base : Nat) (B : Bk) (I : Ik) (m : Mp) (n0 n1 n2 n3 n4 : Value) (vs fs : ByteArray → Option Int) (made : Bool) (hE : k38.C w0 Ae es.length es) (hN : k35.C w0 An ns.length ns) (hok : NodesOk m ns) (hon : OnesOk fs) (x : S42) (ih : ∀ i, i < x.f4.length → UsesSays es ns Ae An ce cn w0 base B I m n0 n1 n2 n3 n4 vs fs made (x.f4.getD i z42)) : UsesSays es ns Ae An ce cn w0 base B I m n0 n1 n2 n3 n4 vs fs made x := by
 intro w csx inside outs hK hw hi hx
 obtain ⟨A3, c3, A4, c4, rfl, l3, g3, l4, g4⟩ := k42_open hK
 have HKX := Aside0.mk hK
 have L3 := Aside0.mk l3; have G3 := Aside0.mk g3; clear l3 g3
 have L4 := Aside0.mk l4; have G4 := Aside0.mk g4; clear l4 g4
 have HX := Aside0.mk (Below.refl w.heap.size w)
 have HB := Aside0.mk hw; have HI := Aside0.mk hi
 have IH := Aside0.mk ih
 have HWH := Aside0.mk (exprB_when made x hx)
 have HKD := Aside0.mk (exprB_kid made x hx)
 have hm1 := Tryz.underlying58
 have hm2 := Tryz.underlying57
 have hk := Tryz.underlying9
 have hz : ∀ W, (zeroValue 3).run Tryz.prog W = .ok (.int .i64 0) W := fun W => by kernel_rfl
 have hz2 : ∀ W, (zeroValue 75).run Tryz.prog W = .ok (.agg #[.int .i64 0, .int .i64 0]) W := fun W => by kernel_rfl
 have hu := Tryz.underlying60
 have hu2 := Tryz.underlying83
 have hu3 := Tryz.underlying25
 have hu5 := Tryz.underlying42
 have hu6 := Tryz.underlying75
 have hwh := fun (W : World) (hB : Below w0.heap.size w0 W) (hI : IAt base W B I (.slice Ae es.length ce) (.slice An ns.length cn) m n0 n1 n2 n3 n4 vs fs) => whole_calls es Ae An A3 ce ns.length cn c3 x.f3 w0 W hE G3.out hB base B m hI.wat
 have hca := fun (W : World) (hB : Below w0.heap.size w0 W) (hI : IAt base W B I (.slice Ae es.length ce) (.slice An ns.length cn) m n0 n1 n2 n3 n4 vs fs) => scall_calls ns An Ae es.length ce cn x outs _ w0 W hK hN hB base B I m n0 n1 n2 n3 n4 vs fs hI hok hon
 have HF := Aside0.mk (usesB_eq m vs fs es ns x inside outs)
 have HTU := Aside0.mk (show topU m vs fs es ns x inside outs = (if x.f0 = 4 then (vs x.f1).isSome else if x.f0 = 3 then m.cons x.f1 else if x.f0 = 11 then ((vs x.f1).isSome && (m.cons (x.f3.getD 0 (⟨#[]⟩ : ByteArray)) && !inside)) else if x.f0 = 12 ∨ x.f0 = 13 then ((vs x.f1).isSome && (!inside && wholeB es x.f3)) else if x.f0 = 14 then callB m fs ns x outs else true) from rfl)
 generalize topU m vs fs es ns x inside outs = top at HF HTU
 generalize wholeB es x.f3 = wb at hwh HTU
 generalize callB m fs ns x outs = cb at hca HTU
 clear hK hw hi hx ih
 go_enter Tryz.func56, Tryz.ntmps56
 go_wp2_with ((with_reducible refine gate_dst (N := 5) rfl ?_); refine box_event ?hg (N := 5) ?hd (cs := #[.int .i64 x.f0, .string x.f1, .int .i64 x.f2, .slice A3 (x.f3).length c3, .slice A4 (x.f4).length c4]) (t := 42) ?hr ?_; (case hd => rfl); (case hg => rfl); (case hr => first | (go_simp; done) | (go_simp; rfl)); intro g5 hg_ w7 hbox hb; have hb_ := hb; have B5 := Aside0.mk hbox; have LB5 := Aside0.mk ((by rw [hg_]; exact below_size HB.out) : w0.heap.size ≤ g5); replace HB := Aside0.mk (below_step HB.out hb); replace HI := Aside0.mk (HI.out.below hb_); replace HX := Aside0.mk (below_step HX.out hb_); clear hb hb_ hbox hg_)
 obtain ⟨cv, hcv⟩ := getI vs x.f1
 have HQV := Aside0.mk (menc_isSome encI vs x.f1)
 generalize hqv : (vs x.f1).isSome = qv at HQV HTU
 clear hqv
 have hlk := fun k => (show StrMap (w7.drewN k) I.vars (menc encI vs) from HI.out.vars).look hm1 hk (hz _) x.f1 true
 simp only [if_true, hcv, HQV.out] at hlk
 clear hcv HQV
 have c5_0 := (blk_cell B5.out 0).trans rfl
 have c5_1 := (blk_cell B5.out 1).trans rfl
 have c5_2 := (blk_cell B5.out 2).trans rfl
 have c5_3 := (blk_cell B5.out 3).trans rfl
 have c5_4 := (blk_cell B5.out 4).trans rfl
 have cw0 := (blk_cell HI.out.wat.wd 0).trans rfl
 have cw1 := (blk_cell HI.out.wat.wd 1).trans rfl
 have cw2 := (blk_cell HI.out.wat.wd 2).trans rfl
 have cw3 := (blk_cell HI.out.wat.wd 3).trans rfl
 have cw4 := (blk_cell HI.out.wat.wd 4).trans rfl
 have cw5 := (blk_cell HI.out.wat.wd 5).trans rfl
 have ci0 := (blk_cell HI.out.inn 0).trans rfl
 have ci1 := (blk_cell HI.out.inn 1).trans rfl
 have ci2 := (blk_cell HI.out.inn 2).trans rfl
 have ci3 := (blk_cell HI.out.inn 3).trans rfl
 have ci4 := (blk_cell HI.out.inn 4).trans rfl
 have ci5 := (blk_cell HI.out.inn 5).trans rfl
 have ci6 := (blk_cell HI.out.inn 6).trans rfl
 have ci7 := (blk_cell HI.out.inn 7).trans rfl
 go_quiet (fail)
 clear hlk
 clear c5_0 c5_1 c5_2 c5_3 c5_4 cw0 cw1 cw2 cw3 cw4 cw5 ci0 ci1 ci2 ci3 ci4 ci5 ci6 ci7
 have HB_ := Aside0.mk (pw_below_drewN HB.out nq); clear HB
 have HX_ := Aside0.mk (pw_below_drewN HX.out nq); clear HX
 have HI_ := Aside0.mk (IAt.drewN HI.out nq); clear HI
 have B5_ := Aside0.mk (blk_drewN B5.out nq); clear B5
 generalize w7.drewN nq = w8 at HB_ HX_ HI_ B5_ ⊢
 have HB := HB_; have HX := HX_; have HI := HI_; have B5 := B5_; clear HB_ HX_ HI_ B5_
 have c5_0 := (blk_cell B5.out 0).trans rfl
 have c5_1 := (blk_cell B5.out 1).trans rfl
 have c5_2 := (blk_cell B5.out 2).trans rfl
 have c5_3 := (blk_cell B5.out 3).trans rfl
 have c5_4 := (blk_cell B5.out 4).trans rfl
 have cw0 := (blk_cell HI.out.wat.wd 0).trans rfl
 have cw1 := (blk_cell HI.out.wat.wd 1).trans rfl
 have cw2 := (blk_cell HI.out.wat.wd 2).trans rfl
 have cw3 := (blk_cell HI.out.wat.wd 3).trans rfl
 have cw4 := (blk_cell HI.out.wat.wd 4).trans rfl
 have cw5 := (blk_cell HI.out.wat.wd 5).trans rfl
 have ci0 := (blk_cell HI.out.inn 0).trans rfl
 have ci1 := (blk_cell HI.out.inn 1).trans rfl
 have ci2 := (blk_cell HI.out.inn 2).trans rfl
 have ci3 := (blk_cell HI.out.inn 3).trans rfl
 have ci4 := (blk_cell HI.out.inn 4).trans rfl
 have ci5 := (blk_cell HI.out.inn 5).trans rfl
 have ci6 := (blk_cell HI.out.inn 6).trans rfl
 have ci7 := (blk_cell HI.out.inn 7).trans rfl
 go_upto_block 0 with (fail)
 go_cut [11, 12, 13] from 29 to 94 (fun s11 s12 s13 wx => ∃ q : Bool, s11 = .bool q ∧ Aside0 (top = q) ∧ Aside0 (Below w0.heap.size w0 wx) ∧ Aside0 (Below w.heap.size w wx) ∧ Aside0 (wx.heap[g5]? = some (.cells #[.int .i64 x.f0, .string x.f1, .int .i64 x.f2, .slice A3 (x.f3).length c3, .slice A4 (x.f4).length c4] 42 (0, 0))) ∧ Aside0 (IAt base wx B I (.slice Ae es.length ce) (.slice An ns.length cn) m n0 n1 n2 n3 n4 vs fs))
 case first =>
   by_cases e4 : x.f0 = 4
   · have t4 : (x.f0 == 4) = true := by rw [e4]; rfl
     have HT := Aside0.mk (show top = qv by rw [HTU.out, if_pos e4])
     clear hwh hca HTU e4
     go_wp2_with fail
     go_meet
     case rel => exact ⟨_, rfl, HT, HB, HX, B5, HI⟩
   by_cases e3 : x.f0 = 3
   · have t4 : (x.f0 == 4) = false := ne_bool (by omega)
     have t3 : (x.f0 == 3) = true := by rw [e3]; rfl
     have HT := Aside0.mk (show top = m.cons x.f1 by rw [HTU.out, if_neg (by omega), if_pos e3])
     obtain ⟨Fc, hFc, hFp⟩ := HI.out.wat.cons
     have hgd : ∃ c : Int × Int, (menc encP Fc x.f1).getD (.agg #[.int .i64 0, .int .i64 0]) = .agg #[.int .i64 c.1, .int .i64 c.2] := by unfold menc; cases Fc x.f1 with | none => exact ⟨(0, 0), rfl⟩ | some y => exact ⟨y, rfl⟩
     obtain ⟨cc, hcc⟩ := hgd
     have hqc : (menc encP Fc x.f1).isSome = m.cons x.f1 := by rw [menc_isSome]; exact hFp _
     have hlk := fun k => (show StrMap (w8.drewN k) B.cons (menc encP Fc) from hFc).look hm2 hk (hz2 _) x.f1 true
     simp only [if_true, hcc, hqc] at hlk
     generalize m.cons x.f1 = qc at hlk HT
     clear hcc hqc hFc hFp hwh hca HTU e3 e4
     go_wp2_with fail
     go_quiet (fail)
     clear hlk
     clear c5_0 c5_1 c5_2 c5_3 c5_4 cw0 cw1 cw2 cw3 cw4 cw5 ci0 ci1 ci2 ci3 ci4 ci5 ci6 ci7
     have HB_ := Aside0.mk (pw_below_drewN HB.out nq); clear HB
     have HX_ := Aside0.mk (pw_below_drewN HX.out nq); clear HX
     have HI_ := Aside0.mk (IAt.drewN HI.out nq); clear HI
     have B5_ := Aside0.mk (blk_drewN B5.out nq); clear B5
     generalize w8.drewN nq = w9 at HB_ HX_ HI_ B5_ ⊢
     have HB := HB_; have HX := HX_; have HI := HI_; have B5 := B5_; clear HB_ HX_ HI_ B5_
     go_wp2_with fail
     go_meet
     case rel => exact ⟨_, rfl, HT, HB, HX, B5, HI⟩
   by_cases e11 : x.f0 = 11
   · have t11 : (x.f0 == 11) = true := by rw [e11]; rfl
     have t4 : (x.f0 == 4) = false := ne_bool (by omega)
     have t3 : (x.f0 == 3) = false := ne_bool (by omega)
     have hp3 := HWH.out e11
     have hp3z : (0 : Int) < (x.f3.length : Int) := by omega
     have HT0 := Aside0.mk (show top = (qv && (m.cons (x.f3.getD 0 (⟨#[]⟩ : ByteArray)) && !inside)) by rw [HTU.out, if_neg e4, if_neg e3, if_pos e11])
     clear HTU e4 e3 e11 hwh hca
     obtain ⟨cad, ccs, rfl, _, cK, ccc⟩ := Kd.C_get G3.out (⟨#[]⟩ : ByteArray) ((0 : Nat) : Int) (by omega) (by omega)
     obtain rfl := cK
     have cx0 := (HB.out.cell (World.block_lt_of_cell? w0 _ (ccc 0 _ rfl))).trans (ccc 0 _ rfl)
     simp only [show Kd.string.sz = 1 from rfl, Nat.mul_one, Nat.add_zero, Int.toNat_natCast] at cx0
     clear ccc
     try simp only [Int.toNat_natCast] at cx0
     generalize Yc00 : x.f3.getD 0 (⟨#[]⟩ : ByteArray) = c0 at HT0 cx0
     have Yc0 := Aside0.mk Yc00; clear Yc00
     simp only [Nat.zero_mul, add_zero'] at cx0
     try simp only [add_zero'] at cx0
     obtain ⟨Fc, hFc, hFp⟩ := HI.out.wat.cons
     have hgd : ∃ c : Int × Int, (menc encP Fc c0).getD (.agg #[.int .i64 0, .int .i64 0]) = .agg #[.int .i64 c.1, .int .i64 c.2] := by unfold menc; cases Fc c0 with | none => exact ⟨(0, 0), rfl⟩ | some y => exact ⟨y, rfl⟩
     obtain ⟨cc, hcc⟩ := hgd
     have hqc : (menc encP Fc c0).isSome = m.cons c0 := by rw [menc_isSome]; exact hFp _
     have hl1 := (show StrMap w8.drew B.cons (menc encP Fc) from hFc).look hm2 hk (hz2 _) c0 true
     have hl2 := fun o => (show StrMap (w8.alloc o).drew B.cons (menc encP Fc) from (StrMap.below hFc (below_alloc (Below.refl _ _) o)).drew).look hm2 hk (hz2 _) c0 true
     simp only [if_true, hcc, hqc] at hl1 hl2
     generalize m.cons c0 = qc at hl1 hl2 HT0
     clear hcc hqc hFc hFp
     have d0 := fun o => (blk_cell (blk_alloc HI.out.inn o) 0).trans rfl
     have d1 := fun o => (blk_cell (blk_alloc HI.out.wat.wd o) 1).trans rfl
     have d3 := fun o => (blk_cell (blk_alloc B5.out o) 3).trans rfl
     have dx := fun o => pw_cell_below (below_alloc (Below.refl w8.heap.size w8) o) cx0
     have lt1 : B.wd < w8.heap.size := blk_lt HI.out.wat.wd
     have lt2 : I.inn < w8.heap.size := blk_lt HI.out.inn
     have lt3 : g5 < w8.heap.size := blk_lt B5.out
     have lt4 := World.block_lt_of_cell? w8 _ cx0
     have ne1 : B.wd ≠ w8.heap.size := by omega
     have ne2 : I.inn ≠ w8.heap.size := by omega
     have ne3 : g5 ≠ w8.heap.size := by omega
     have ne4 : cad.block ≠ w8.heap.size := by omega
     have HQQ := Aside0.mk HT0.out; clear HT0
     go_wp2_with fail
     go_cut [12, 13] from 49 to 63 (fun s12 s13 wx => s13 = .bool qc ∧ Aside0 (Below w8.heap.size w8 wx))
     case first =>
       go_region_with (fail)
       all_goals
         go_wp2_with fail
         go_meet
         case rel => exact ⟨rfl, ⟨by repeat (first | exact Below.refl _ _ | apply below_alloc | apply below_drew1 | refine below_set ?_ (Nat.le_refl _))⟩⟩
     case rest =>
       obtain ⟨rfl, hb⟩ := hcut
       clear hl1 hl2 d0 d1 d3 dx lt1 lt2 lt3 lt4 ne1 ne2 ne3 ne4 cx0
       clear c5_0 c5_1 c5_2 c5_3 c5_4 cw0 cw1 cw2 cw3 cw4 cw5 ci0 ci1 ci2 ci3 ci4 ci5 ci6 ci7
       replace HI := Aside0.mk (HI.out.below hb.out)
       replace HX := Aside0.mk (below_step HX.out hb.out)
       replace HB := Aside0.mk (below_step HB.out hb.out)
       replace B5 := Aside0.mk (below_blk B5.out hb.out)
       clear hb
       cases qv with
       | false =>
         have HT := Aside0.mk (show top = false by rw [HQQ.out]; rfl)
         go_wp2_with fail
         go_meet
         case rel => exact ⟨_, rfl, HT, HB, HX, B5, HI⟩
       | true =>
       cases qc with
       | false =>
         have HT := Aside0.mk (show top = false by rw [HQQ.out]; rfl)
         go_wp2_with fail
         go_meet
         case rel => exact ⟨_, rfl, HT, HB, HX, B5, HI⟩
       | true =>
         have HT := Aside0.mk (show top = !inside by rw [HQQ.out]; rfl)
         go_wp2_with fail
         go_meet
         case rel => exact ⟨_, rfl, HT, HB, HX, B5, HI⟩
   by_cases e12 : x.f0 = 12 ∨ x.f0 = 13
   · rcases e12 with e | e
     · skip
       have t12 : (x.f0 == 12) = true := by rw [e]; rfl
       have t4 : (x.f0 == 4) = false := ne_bool (by omega)
       have t3 : (x.f0 == 3) = false := ne_bool (by omega)
       have t11 : (x.f0 == 11) = false := ne_bool (by omega)
       have HT0 := Aside0.mk (show top = (qv && (!inside && wb)) by rw [HTU.out, if_neg e4, if_neg e3, if_neg e11, if_pos (by omega)])
       clear HTU e4 e3 e11 e hca
       cases qv with
       | false =>
         have HT := Aside0.mk (show top = false by rw [HT0.out]; rfl)
         clear HT0 hwh
         go_wp2_with fail
         go_quiet (fail)
         clear c5_0 c5_1 c5_2 c5_3 c5_4 cw0 cw1 cw2 cw3 cw4 cw5 ci0 ci1 ci2 ci3 ci4 ci5 ci6 ci7
         have HB_ := Aside0.mk (pw_below_drewN HB.out nq); clear HB
         have HX_ := Aside0.mk (pw_below_drewN HX.out nq); clear HX
         have HI_ := Aside0.mk (IAt.drewN HI.out nq); clear HI
         have B5_ := Aside0.mk (blk_drewN B5.out nq); clear B5
         generalize w8.drewN nq = w9 at HB_ HX_ HI_ B5_ ⊢
         have HB := HB_; have HX := HX_; have HI := HI_; have B5 := B5_; clear HB_ HX_ HI_ B5_
         go_wp2_with fail
         go_meet
         case rel => exact ⟨_, rfl, HT, HB, HX, B5, HI⟩
       | true =>
       cases inside with
       | true =>
         have HT := Aside0.mk (show top = false by rw [HT0.out]; rfl)
         clear HT0 hwh
         go_wp2_with fail
         go_quiet (fail)
         clear c5_0 c5_1 c5_2 c5_3 c5_4 cw0 cw1 cw2 cw3 cw4 cw5 ci0 ci1 ci2 ci3 ci4 ci5 ci6 ci7
         have HB_ := Aside0.mk (pw_below_drewN HB.out nq); clear HB
         have HX_ := Aside0.mk (pw_below_drewN HX.out nq); clear HX
         have HI_ := Aside0.mk (IAt.drewN HI.out nq); clear HI
         have B5_ := Aside0.mk (blk_drewN B5.out nq); clear B5
         generalize w8.drewN nq = w9 at HB_ HX_ HI_ B5_ ⊢
         have HB := HB_; have HX := HX_; have HI := HI_; have B5 := B5_; clear HB_ HX_ HI_ B5_
         go_wp2_with fail
         go_meet
         case rel => exact ⟨_, rfl, HT, HB, HX, B5, HI⟩
       | false =>
       have HT := Aside0.mk (show top = wb by rw [HT0.out]; rfl)
       clear HT0
       go_wp2_with fail
       go_still_tail 12, (by kernel_rfl)
       change wpList _ _ _ _ _ (World.drew w8)
       have HB_ := Aside0.mk (below_drew1 HB.out); clear HB
       have HX_ := Aside0.mk (below_drew1 HX.out); clear HX
       have HI_ := Aside0.mk (IAt.drew HI.out); clear HI
       have B5_ := Aside0.mk (blk_drew B5.out); clear B5
       generalize World.drew w8 = w9 at HB_ HX_ HI_ B5_ ⊢
       have HB := HB_; clear HB_
       have HX := HX_; clear HX_
       have HI := HI_; clear HI_
       have B5 := B5_; clear B5_
       clear c5_0 c5_1 c5_2 c5_3 c5_4 cw0 cw1 cw2 cw3 cw4 cw5 ci0 ci1 ci2 ci3 ci4 ci5 ci6 ci7
       go_wp2_with fail
       refine (hwh _ HB.out (by exact HI.out)).mono ?_
       rintro e w10 ⟨rfl, hb⟩
       replace HI := Aside0.mk (HI.out.below hb)
       replace HX := Aside0.mk (below_step HX.out hb)
       replace HB := Aside0.mk (below_step HB.out hb)
       replace B5 := Aside0.mk (below_blk B5.out hb)
       clear hb hwh
       go_wp2_with fail
       go_meet
       case rel => exact ⟨_, rfl, HT, HB, HX, B5, HI⟩
     · skip
       have t13 : (x.f0 == 13) = true := by rw [e]; rfl
       have t4 : (x.f0 == 4) = false := ne_bool (by omega)
       have t3 : (x.f0 == 3) = false := ne_bool (by omega)
       have t11 : (x.f0 == 11) = false := ne_bool (by omega)
       have t12 : (x.f0 == 12) = false := ne_bool (by omega)
       have HT0 := Aside0.mk (show top = (qv && (!inside && wb)) by rw [HTU.out, if_neg e4, if_neg e3, if_neg e11, if_pos (by omega)])
       clear HTU e4 e3 e11 e hca
       cases qv with
       | false =>
         have HT := Aside0.mk (show top = false by rw [HT0.out]; rfl)
         clear HT0 hwh
         go_wp2_with fail
         go_quiet (fail)
         clear c5_0 c5_1 c5_2 c5_3 c5_4 cw0 cw1 cw2 cw3 cw4 cw5 ci0 ci1 ci2 ci3 ci4 ci5 ci6 ci7
         have HB_ := Aside0.mk (pw_below_drewN HB.out nq); clear HB
         have HX_ := Aside0.mk (pw_below_drewN HX.out nq); clear HX
         have HI_ := Aside0.mk (IAt.drewN HI.out nq); clear HI
         have B5_ := Aside0.mk (blk_drewN B5.out nq); clear B5
         generalize w8.drewN nq = w9 at HB_ HX_ HI_ B5_ ⊢
         have HB := HB_; have HX := HX_; have HI := HI_; have B5 := B5_; clear HB_ HX_ HI_ B5_
         go_wp2_with fail
         go_meet
         case rel => exact ⟨_, rfl, HT, HB, HX, B5, HI⟩
       | true =>
       cases inside with
       | true =>
         have HT := Aside0.mk (show top = false by rw [HT0.out]; rfl)
         clear HT0 hwh
         go_wp2_with fail
         go_quiet (fail)
         clear c5_0 c5_1 c5_2 c5_3 c5_4 cw0 cw1 cw2 cw3 cw4 cw5 ci0 ci1 ci2 ci3 ci4 ci5 ci6 ci7
         have HB_ := Aside0.mk (pw_below_drewN HB.out nq); clear HB
         have HX_ := Aside0.mk (pw_below_drewN HX.out nq); clear HX
         have HI_ := Aside0.mk (IAt.drewN HI.out nq); clear HI
         have B5_ := Aside0.mk (blk_drewN B5.out nq); clear B5
         generalize w8.drewN nq = w9 at HB_ HX_ HI_ B5_ ⊢
         have HB := HB_; have HX := HX_; have HI := HI_; have B5 := B5_; clear HB_ HX_ HI_ B5_
         go_wp2_with fail
         go_meet
         case rel => exact ⟨_, rfl, HT, HB, HX, B5, HI⟩
       | false =>
       have HT := Aside0.mk (show top = wb by rw [HT0.out]; rfl)
       clear HT0
       go_wp2_with fail
       go_still_tail 12, (by kernel_rfl)
       change wpList _ _ _ _ _ (World.drew w8)
       have HB_ := Aside0.mk (below_drew1 HB.out); clear HB
       have HX_ := Aside0.mk (below_drew1 HX.out); clear HX
       have HI_ := Aside0.mk (IAt.drew HI.out); clear HI
       have B5_ := Aside0.mk (blk_drew B5.out); clear B5
       generalize World.drew w8 = w9 at HB_ HX_ HI_ B5_ ⊢
       have HB := HB_; clear HB_
       have HX := HX_; clear HX_
       have HI := HI_; clear HI_
       have B5 := B5_; clear B5_
       clear c5_0 c5_1 c5_2 c5_3 c5_4 cw0 cw1 cw2 cw3 cw4 cw5 ci0 ci1 ci2 ci3 ci4 ci5 ci6 ci7
       go_wp2_with fail
       refine (hwh _ HB.out (by exact HI.out)).mono ?_
       rintro e w10 ⟨rfl, hb⟩
       replace HI := Aside0.mk (HI.out.below hb)
       replace HX := Aside0.mk (below_step HX.out hb)
       replace HB := Aside0.mk (below_step HB.out hb)
       replace B5 := Aside0.mk (below_blk B5.out hb)
       clear hb hwh
       go_wp2_with fail
       go_meet
       case rel => exact ⟨_, rfl, HT, HB, HX, B5, HI⟩
   by_cases e14 : x.f0 = 14
   · have t14 : (x.f0 == 14) = true := by rw [e14]; rfl
     have HT := Aside0.mk (show top = cb by rw [HTU.out, if_neg e4, if_neg e3, if_neg e11, if_neg e12, if_pos e14])
     clear HTU
     have t4 : (x.f0 == 4) = false := ne_bool (by omega)
     have t3 : (x.f0 == 3) = false := ne_bool (by omega)
     have t11 : (x.f0 == 11) = false := ne_bool (by omega)
     have t12 : (x.f0 == 12) = false := ne_bool (by omega)
     have t13 : (x.f0 == 13) = false := ne_bool (by omega)
     clear e14 e4 e3 e11 e12 hwh
     go_wp2_with fail
     refine (hca _ HB.out (by exact HI.out)).mono ?_
     rintro e w9 ⟨rfl, hb⟩
     replace HI := Aside0.mk (HI.out.below hb)
     replace HX := Aside0.mk (below_step HX.out hb)
     replace HB := Aside0.mk (below_step HB.out hb)
     replace B5 := Aside0.mk (below_blk B5.out hb)
     clear hb hca
     clear c5_0 c5_1 c5_2 c5_3 c5_4 cw0 cw1 cw2 cw3 cw4 cw5 ci0 ci1 ci2 ci3 ci4 ci5 ci6 ci7
     go_wp2_with fail
     go_meet
     case rel => exact ⟨_, rfl, HT, HB, HX, B5, HI⟩
   have HT := Aside0.mk (show top = true by rw [HTU.out, if_neg e4, if_neg e3, if_neg e11, if_neg e12, if_neg e14])
   clear HTU
   have t4 : (x.f0 == 4) = false := ne_bool (by omega)
   have t3 : (x.f0 == 3) = false := ne_bool (by omega)
   have t11 : (x.f0 == 11) = false := ne_bool (by omega)
   have t12 : (x.f0 == 12) = false := ne_bool (by omega)
   have t13 : (x.f0 == 13) = false := ne_bool (by omega)
   have t14 : (x.f0 == 14) = false := ne_bool (by omega)
   clear e14 e4 e3 e11 e12 hwh hca
   go_wp2_with fail
   go_meet
   case rel => exact ⟨_, rfl, HT, HB, HX, B5, HI⟩
 case rest =>
   clear HB HX HI B5 HTU hwh hca c5_0 c5_1 c5_2 c5_3 c5_4 cw0 cw1 cw2 cw3 cw4 cw5 ci0 ci1 ci2 ci3 ci4 ci5 ci6 ci7
   obtain ⟨q, rfl, HT, HB, HX, B5, HI⟩ := hcut
   cases q with
   | false =>
     go_wp2_with fail
     go_ret
     exact ⟨by rw [HF.out, HT.out]; rfl, HX.out⟩
   | true =>
   have h := HF.out
   rw [HT.out, Bool.true_and] at h
   have HF2 := Aside0.mk h
   clear h
   clear HF HT
   have HUR := Aside0.mk (show usesL m vs fs es ns (x.f4.drop 0) (inside || (x.f0 == 13)) (if (0 : Nat) = 0 then (if x.f0 = 15 then outs else 1) else 1) = usesL m vs fs es ns x.f4 (inside || (x.f0 == 13)) (if x.f0 = 15 then outs else 1) by rw [List.drop_zero, if_pos rfl])
   generalize usesL m vs fs es ns x.f4 (inside || (x.f0 == 13)) (if x.f0 = 15 then outs else 1) = R at HF2 HUR
   have c5_0 := (blk_cell B5.out 0).trans rfl
   have c5_1 := (blk_cell B5.out 1).trans rfl
   have c5_2 := (blk_cell B5.out 2).trans rfl
   have c5_3 := (blk_cell B5.out 3).trans rfl
   have c5_4 := (blk_cell B5.out 4).trans rfl
   go_wp2_with fail
   clear c5_0 c5_1 c5_2 c5_3 c5_4
   go_loopg [100] x.f4.length (fun gg s_ wr => ∃ kk : Nat, kk ≤ x.f4.length ∧ x.f4.length - kk ≤ gg ∧ s_ = .int .i64 kk ∧ Aside0 (Below w0.heap.size w0 wr) ∧ Aside0 (Below w.heap.size w wr) ∧ Aside0 (wr.heap[g5]? = some (.cells #[.int .i64 x.f0, .string x.f1, .int .i64 x.f2, .slice A3 (x.f3).length c3, .slice A4 (x.f4).length c4] 42 (0, 0))) ∧ Aside0 (IAt base wr B I (.slice Ae es.length ce) (.slice An ns.length cn) m n0 n1 n2 n3 n4 vs fs) ∧ Aside0 (usesL m vs fs es ns (x.f4.drop kk) (inside || (x.f0 == 13)) (if kk = 0 then (if x.f0 = 15 then outs else 1) else 1) = R))
   case atStart => exact ⟨0, Nat.zero_le _, by omega, rfl, HB, HX, B5, HI, HUR⟩
   case round =>
     clear HB HX B5 HI HUR
     obtain ⟨kk, hkk, hg, rfl, HB, HX, B5, HI, U⟩ := hrel
     have hmx : x.f4.length ≤ 9223372036854775807 := (G4.out).2.1
     by_cases hlt : kk < x.f4.length
     · have hltz : (kk : Int) < (x.f4.length : Int) := by omega
       have hst := usesL_step m vs fs es ns x.f4 kk hlt (inside || (x.f0 == 13)) (if kk = 0 then (if x.f0 = 15 then outs else 1) else 1)
       have hih := IH.out kk hlt
       have hkd := HKD.out kk hlt
       obtain ⟨yad, ycs, rfl, _, yK, ycc⟩ := Kd.C_get G4.out z42 (kk : Int) (by omega) (by omega)
       have yK' := yK
       obtain ⟨yA3, yc3, yA4, yc4, rfl, yl3, yg3, yl4, yg4⟩ := k42_open yK'
       have yx0 := (HB.out.cell (World.block_lt_of_cell? w0 _ (ycc 0 _ rfl))).trans (ycc 0 _ rfl)
       have yx1 := (HB.out.cell (World.block_lt_of_cell? w0 _ (ycc 1 _ rfl))).trans (ycc 1 _ rfl)
       have yx2 := (HB.out.cell (World.block_lt_of_cell? w0 _ (ycc 2 _ rfl))).trans (ycc 2 _ rfl)
       have yx3 := (HB.out.cell (World.block_lt_of_cell? w0 _ (ycc 3 _ rfl))).trans (ycc 3 _ rfl)
       have yx4 := (HB.out.cell (World.block_lt_of_cell? w0 _ (ycc 4 _ rfl))).trans (ycc 4 _ rfl)
       rw [show (k42).sz = 5 from rfl, Nat.add_zero, Int.toNat_natCast] at yx0
       rw [show (k42).sz = 5 from rfl, Int.toNat_natCast, add_field _ _ 1 (by omega)] at yx1
       rw [show (k42).sz = 5 from rfl, Int.toNat_natCast, add_field _ _ 2 (by omega)] at yx2
       rw [show (k42).sz = 5 from rfl, Int.toNat_natCast, add_field _ _ 3 (by omega)] at yx3
       rw [show (k42).sz = 5 from rfl, Int.toNat_natCast, add_field _ _ 4 (by omega)] at yx4
       clear ycc
       try simp only [Int.toNat_natCast] at yx0 yx1 yx2 yx3 yx4 yK yl3 yg3 yl4 yg4
       generalize Yy0 : x.f4.getD kk z42 = y at hst hih hkd yx0 yx1 yx2 yx3 yx4 yK yl3 yg3 yl4 yg4
       have Yy := Aside0.mk Yy0; clear Yy0
       have yL3 := Aside0.mk yl3; have yG3 := Aside0.mk yg3; clear yl3 yg3
       have yL4 := Aside0.mk yl4; have yG4 := Aside0.mk yg4; clear yl4 yg4
       have HST := Aside0.mk hst
       have hcall := fun (W : World) (i : Bool) (o : Int) (hB : Below w0.heap.size w0 W) (hI : IAt base W B I (.slice Ae es.length ce) (.slice An ns.length cn) m n0 n1 n2 n3 n4 vs fs) => hih W _ i o yK hB hI hkd
       clear hst hih hkd
       go_upto_region 22 with ((with_reducible refine gate_store (t := 42) (p := 15) rfl ?_); refine store_whole rfl rfl 42 _ _ rfl wr.heap.size _ 42 rfl (blk_new _ _) _ rfl rfl rfl (by simp [Value.oneCell']) ?_; intro w2 hb2 hg2; replace B5 := Aside0.mk (blk_as B5.out hg2); replace HB := Aside0.mk (below_as HB.out hg2); replace HX := Aside0.mk (below_as HX.out hg2); replace HI := Aside0.mk (HI.out.as hg2); obtain ⟨ge, hq_⟩ : ∃ g_, g_ = wr.heap.size := ⟨_, rfl⟩; rw [← hq_] at hb2; rw [← hq_]; have BE := Aside0.mk hb2; clear hb2 hg2 hq_; have ce_0 := (blk_cell BE.out 0).trans rfl; have ce_1 := (blk_cell BE.out 1).trans rfl; have ce_2 := (blk_cell BE.out 2).trans rfl; have ce_3 := (blk_cell BE.out 3).trans rfl; have ce_4 := (blk_cell BE.out 4).trans rfl; have c5_0 := (blk_cell B5.out 0).trans rfl; have c5_1 := (blk_cell B5.out 1).trans rfl; have c5_2 := (blk_cell B5.out 2).trans rfl; have c5_3 := (blk_cell B5.out 3).trans rfl; have c5_4 := (blk_cell B5.out 4).trans rfl)
       clear ce_0 ce_1 ce_2 ce_3 ce_4
       clear c5_0 c5_1 c5_2 c5_3 c5_4
       go_cut [111] from 101 to 124 (fun s111 wx => ∃ q : Bool, s111 = .bool q ∧ Aside0 ((if kk = 0 then (if x.f0 = 15 then outs else 1) else 1) = cond q outs 1) ∧ Aside0 (Below w0.heap.size w0 wx) ∧ Aside0 (Below w.heap.size w wx) ∧ Aside0 (wx.heap[g5]? = some (.cells #[.int .i64 x.f0, .string x.f1, .int .i64 x.f2, .slice A3 (x.f3).length c3, .slice (some yad) (x.f4).length c4] 42 (0, 0))) ∧ Aside0 (wx.heap[ge]? = some (.cells #[.int .i64 y.f0, .string y.f1, .int .i64 y.f2, .slice yA3 (y.f3).length yc3, .slice yA4 (y.f4).length yc4] 42 (0, 0))) ∧ Aside0 (IAt base wx B I (.slice Ae es.length ce) (.slice An ns.length cn) m n0 n1 n2 n3 n4 vs fs))
       case first =>
         clear hcall HST U
         have c5_0 := (blk_cell B5.out 0).trans rfl
         have c5_1 := (blk_cell B5.out 1).trans rfl
         have c5_2 := (blk_cell B5.out 2).trans rfl
         have c5_3 := (blk_cell B5.out 3).trans rfl
         have c5_4 := (blk_cell B5.out 4).trans rfl
         by_cases e15 : x.f0 = 15
         · have t15 : (x.f0 == 15) = true := by rw [e15]; rfl
           cases hkb : ((kk : Int) == 0) with
           | true =>
             have HN := Aside0.mk (show (if kk = 0 then (if x.f0 = 15 then outs else 1) else 1) = cond true outs 1 by rw [if_pos (by have := of_beq_eq_true' hkb; omega), if_pos e15]; rfl)
             clear e15
             go_wp2_with fail
             go_meet
             case rel => exact ⟨_, rfl, HN, HB, HX, B5, BE, HI⟩
           | false =>
             have HN := Aside0.mk (show (if kk = 0 then (if x.f0 = 15 then outs else 1) else 1) = cond false outs 1 by rw [if_neg (by have := ne_of_beq' hkb; omega)]; rfl)
             clear e15
             go_wp2_with fail
             go_meet
             case rel => exact ⟨_, rfl, HN, HB, HX, B5, BE, HI⟩
         · have t15 : (x.f0 == 15) = false := ne_bool e15
           have HN := Aside0.mk (show (if kk = 0 then (if x.f0 = 15 then outs else 1) else 1) = cond false outs 1 by rw [if_neg e15, ite_self]; rfl)
           clear e15
           go_wp2_with fail
           go_meet
           case rel => exact ⟨_, rfl, HN, HB, HX, B5, BE, HI⟩
       case rest =>
         clear HB HX B5 BE HI
         obtain ⟨q, rfl, HQN, HB, HX, B5, BE, HI⟩ := hcut
         go_upto_if 111 with (fail)
         go_cut [16] from 101 to 124 (fun s16 wx => ∃ nv : Int, s16 = .int .i64 nv ∧ Aside0 ((if kk = 0 then (if x.f0 = 15 then outs else 1) else 1) = nv) ∧ Aside0 (Below w0.heap.size w0 wx) ∧ Aside0 (Below w.heap.size w wx) ∧ Aside0 (wx.heap[g5]? = some (.cells #[.int .i64 x.f0, .string x.f1, .int .i64 x.f2, .slice A3 (x.f3).length c3, .slice (some yad) (x.f4).length c4] 42 (0, 0))) ∧ Aside0 (wx.heap[ge]? = some (.cells #[.int .i64 y.f0, .string y.f1, .int .i64 y.f2, .slice yA3 (y.f3).length yc3, .slice yA4 (y.f4).length yc4] 42 (0, 0))) ∧ Aside0 (IAt base wx B I (.slice Ae es.length ce) (.slice An ns.length cn) m n0 n1 n2 n3 n4 vs fs))
         case first =>
           clear hcall HST U
           cases q with
           | true =>
             have HN := Aside0.mk (show (if kk = 0 then (if x.f0 = 15 then outs else 1) else 1) = outs from HQN.out)
             clear HQN
             go_wp2_with fail
             go_meet
             case rel => exact ⟨_, rfl, HN, HB, HX, B5, BE, HI⟩
           | false =>
             have HN := Aside0.mk (show (if kk = 0 then (if x.f0 = 15 then outs else 1) else 1) = 1 from HQN.out)
             clear HQN
             go_wp2_with fail
             go_meet
             case rel => exact ⟨_, rfl, HN, HB, HX, B5, BE, HI⟩
         case rest =>
           clear HQN HB HX B5 BE HI
           obtain ⟨nv, rfl, HN, HB, HX, B5, BE, HI⟩ := hcut
           have h := HST.out
           rw [HN.out] at h
           have HS2 := Aside0.mk h
           clear h
           have h := U.out
           rw [HN.out] at h
           have HU0 := Aside0.mk h
           clear h
           clear HST U HN
           have c5_0 := (blk_cell B5.out 0).trans rfl
           have c5_1 := (blk_cell B5.out 1).trans rfl
           have c5_2 := (blk_cell B5.out 2).trans rfl
           have c5_3 := (blk_cell B5.out 3).trans rfl
           have c5_4 := (blk_cell B5.out 4).trans rfl
           have ce_0 := (blk_cell BE.out 0).trans rfl
           have ce_1 := (blk_cell BE.out 1).trans rfl
           have ce_2 := (blk_cell BE.out 2).trans rfl
           have ce_3 := (blk_cell BE.out 3).trans rfl
           have ce_4 := (blk_cell BE.out 4).trans rfl
           cases inside with
           | true =>
             go_wp2_with fail
             refine (hcall _ _ _ HB.out (by exact HI.out)).mono ?_
             rintro e w10 ⟨rfl, hb⟩
             replace HI := Aside0.mk (HI.out.below hb)
             replace HX := Aside0.mk (below_step HX.out hb)
             replace HB := Aside0.mk (below_step HB.out hb)
             replace B5 := Aside0.mk (below_blk B5.out hb)
             clear hb hcall BE ce_0 ce_1 ce_2 ce_3 ce_4 c5_0 c5_1 c5_2 c5_3 c5_4
             have h := HU0.out
             rw [HS2.out] at h; simp only [Bool.true_or] at h
             have HU2 := Aside0.mk h
             clear h
             clear HU0 HS2
             generalize usesB m vs fs es ns y true nv = ub at HU2 ⊢
             cases ub with
             | false =>
               go_wp2_with fail
               go_ret
               exact ⟨by rw [HF2.out, ← HU2.out]; rfl, HX.out⟩
             | true =>
               go_wp2_with fail
               go_roundg (x.f4.length - (kk + 1))
               case measure => omega
               case rel => exact ⟨kk + 1, by omega, by omega, by go_num, HB, HX, B5, HI, ⟨by have h := HU2.out; rw [Bool.true_and] at h; rw [if_neg (by omega)]; exact h⟩⟩
           | false =>
             go_wp2_with fail
             refine (hcall _ _ _ HB.out (by exact HI.out)).mono ?_
             rintro e w10 ⟨rfl, hb⟩
             replace HI := Aside0.mk (HI.out.below hb)
             replace HX := Aside0.mk (below_step HX.out hb)
             replace HB := Aside0.mk (below_step HB.out hb)
             replace B5 := Aside0.mk (below_blk B5.out hb)
             clear hb hcall BE ce_0 ce_1 ce_2 ce_3 ce_4 c5_0 c5_1 c5_2 c5_3 c5_4
             have h := HU0.out
             rw [HS2.out] at h; simp only [Bool.false_or] at h
             have HU2 := Aside0.mk h
             clear h
             clear HU0 HS2
             generalize usesB m vs fs es ns y (x.f0 == 13) nv = ub at HU2 ⊢
             cases ub with
             | false =>
               go_wp2_with fail
               go_ret
               exact ⟨by rw [HF2.out, ← HU2.out]; rfl, HX.out⟩
             | true =>
               go_wp2_with fail
               go_roundg (x.f4.length - (kk + 1))
               case measure => omega
               case rel => exact ⟨kk + 1, by omega, by omega, by go_num, HB, HX, B5, HI, ⟨by have h := HU2.out; rw [Bool.true_and] at h; rw [if_neg (by omega)]; exact h⟩⟩
     · have hltz : ¬ (kk : Int) < (x.f4.length : Int) := by omega
       obtain rfl : kk = x.f4.length := by omega
       have h := U.out
       rw [List.drop_length, usesL] at h
       have HU2 := Aside0.mk h
       clear h
       go_wp2_with fail
       go_ret
       exact ⟨by rw [HF2.out, ← HU2.out]; rfl, HX.out⟩
theorem uses_says (es : List S38) (ns : List S35) (Ae An : Option Addr) (ce cn : Nat) (w0 : World) (base : Nat) (B : Bk) (I : Ik) (m : Mp) (n0 n1 n2 n3 n4 : Value) (vs fs : ByteArray → Option Int) (made : Bool) (hE : k38.C w0 Ae es.length es) (hN : k35.C w0 An ns.length ns) (hok : NodesOk m ns) (hon : OnesOk fs) (n : Nat) : ∀ x : S42, SizeOf.sizeOf x ≤ n → UsesSays es ns Ae An ce cn w0 base B I m n0 n1 n2 n3 n4 vs fs made x := by
 induction n with
 | zero => intro x h; exfalso; cases x; simp only [S42.mk.sizeOf_spec] at h; omega
 | succ n ih => intro x h; exact uses_step es ns Ae An ce cn w0 base B I m n0 n1 n2 n3 n4 vs fs made hE hN hok hon x (fun i hi => ih _ (by have := sizeOf_kid x i hi; omega))
end Go.Proofs.YtggfnbnochmkdaaGreat
