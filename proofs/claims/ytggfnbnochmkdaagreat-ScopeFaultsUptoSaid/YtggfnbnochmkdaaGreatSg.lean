/- Package scope: what is there within a node; head. -/
import Derived.Deep.CutRange
import Derived.Test.YtggfnbnochmkdaaGreatSd
namespace Go.Proofs.YtggfnbnochmkdaaGreat
open Go Go.RowKit Go.Lib Go.Proofs.YtggfnbnochmkdaaGreatW.PrintWords Go.Proofs.YtggfnbnochmkdaaGreat.PScope
set_option maxRecDepth 100000
set_option linter.unusedSimpArgs false
set_option linter.unusedVariables false
structure Ik where
 inn : Nat
 vars : Nat
 funs : Nat
structure IAt (base : Nat) (w : World) (B : Bk) (I : Ik) (pe pn : Value) (m : Mp) (n0 n1 n2 n3 n4 : Value) (vs fs : ByteArray → Option Int) : Prop where
 inn : w.heap[I.inn]? = some (.cells #[.pointer (some ⟨B.wd, 0, none⟩), n0, n1, n2, n3, n4, .map (some I.vars), .map (some I.funs)] 83 (0, 0))
 wat : WAt base w B pe pn m
 vars : StrMap w I.vars (menc encI vs)
 funs : StrMap w I.funs (menc encI fs)
 apart : I.vars ≠ I.funs ∧ (I.vars ≠ B.cons ∧ I.vars ≠ B.enums ∧ I.vars ≠ B.nodes ∧ I.vars ≠ B.states) ∧ (I.funs ≠ B.cons ∧ I.funs ≠ B.enums ∧ I.funs ≠ B.nodes ∧ I.funs ≠ B.states)
 low : base ≤ I.inn ∧ base ≤ I.vars ∧ base ≤ I.funs
section
variable {base : Nat} {w w1 : World} {B : Bk} {I : Ik} {pe pn : Value} {m : Mp} {n0 n1 n2 n3 n4 : Value} {vs fs : ByteArray → Option Int}
theorem IAt.below (h : IAt base w B I pe pn m n0 n1 n2 n3 n4 vs fs) (hb : Below w.heap.size w w1) : IAt base w1 B I pe pn m n0 n1 n2 n3 n4 vs fs :=
 ⟨below_blk h.inn hb, h.wat.below hb, h.vars.below hb, h.funs.below hb, h.apart, h.low⟩
theorem IAt.as (h : IAt base w B I pe pn m n0 n1 n2 n3 n4 vs fs) {o' : Obj} (hg : (w.alloc o').grownBy w1 (some w.heap.size)) : IAt base w1 B I pe pn m n0 n1 n2 n3 n4 vs fs :=
 ⟨blk_as h.inn hg, h.wat.as hg, h.vars.turned (turned_as (Turned.refl (fun _ => False) w) hg) (fun e => e), h.funs.turned (turned_as (Turned.refl (fun _ => False) w) hg) (fun e => e), h.apart, h.low⟩
theorem IAt.drew (h : IAt base w B I pe pn m n0 n1 n2 n3 n4 vs fs) : IAt base w.drew B I pe pn m n0 n1 n2 n3 n4 vs fs := ⟨h.inn, h.wat.drew, h.vars, h.funs, h.apart, h.low⟩
theorem IAt.drewN (h : IAt base w B I pe pn m n0 n1 n2 n3 n4 vs fs) (k : Nat) : IAt base (w.drewN k) B I pe pn m n0 n1 n2 n3 n4 vs fs := h.below (pw_below_drewN (Below.refl _ _) k)
theorem IAt.vars' (h : IAt base w B I pe pn m n0 n1 n2 n3 n4 vs fs) {F : ByteArray → Option Int} (ht : Turned (fun k => k = I.vars) w w1) (hp : StrMap w1 I.vars (menc encI F)) : IAt base w1 B I pe pn m n0 n1 n2 n3 n4 F fs :=
 ⟨ht.blk h.inn (fun e => h.vars.ne h.inn e.symm), h.wat.turned ht (fun e => h.vars.ne h.wat.wd e.symm) (fun e => h.apart.2.1.1 e.symm) (fun e => h.apart.2.1.2.1 e.symm) (fun e => h.apart.2.1.2.2.1 e.symm) (fun e => h.apart.2.1.2.2.2 e.symm), hp, h.funs.turned ht (fun e => h.apart.1 e.symm), h.apart, h.low⟩
theorem IAt.funs' (h : IAt base w B I pe pn m n0 n1 n2 n3 n4 vs fs) {F : ByteArray → Option Int} (ht : Turned (fun k => k = I.funs) w w1) (hp : StrMap w1 I.funs (menc encI F)) : IAt base w1 B I pe pn m n0 n1 n2 n3 n4 vs F :=
 ⟨ht.blk h.inn (fun e => h.funs.ne h.inn e.symm), h.wat.turned ht (fun e => h.funs.ne h.wat.wd e.symm) (fun e => h.apart.2.2.1 e.symm) (fun e => h.apart.2.2.2.1 e.symm) (fun e => h.apart.2.2.2.2.1 e.symm) (fun e => h.apart.2.2.2.2.2 e.symm), h.vars.turned ht (fun e => h.apart.1 e), hp, h.apart, h.low⟩
theorem IAt.states' (h : IAt base w B I pe pn m n0 n1 n2 n3 n4 vs fs) {P : ByteArray → Bool} (ht : Turned (fun k => k = B.states) w w1) (hp : Pres encI w1 B.states P) : IAt base w1 B I pe pn { m with states := P } n0 n1 n2 n3 n4 vs fs :=
 ⟨ht.blk h.inn (fun e => h.wat.states.ne h.inn e.symm), h.wat.states' ht hp, h.vars.turned ht (fun e => h.apart.2.1.2.2.2 e), h.funs.turned ht (fun e => h.apart.2.2.2.2.2 e), h.apart, h.low⟩
end
def mkM (v : Int) (l : List ByteArray) : ByteArray → Option Int := fun s => if inB l s = true then some v else none
theorem mkM_nil (v : Int) : mkM v [] = fun _ => none := by funext s; simp [mkM, inB]
theorem mkM_snoc (v : Int) (l : List ByteArray) (z : ByteArray) (k : Nat) (h : k < l.length) : mupd (mkM v (l.take k)) (l.getD k z) v = mkM v (l.take (k + 1)) := by
 funext s
 rw [take_snoc' l z k h]
 unfold mupd mkM
 by_cases e : s = l.getD k z
 · rw [if_pos e, if_pos ((inB_iff _ _).2 (by rw [List.mem_append, List.mem_singleton]; exact .inr e))]
 · rw [if_neg e]
   by_cases h2 : inB (l.take k) s = true
   · rw [if_pos h2, if_pos ((inB_iff _ _).2 (by rw [List.mem_append]; exact .inl ((inB_iff _ _).1 h2)))]
   · rw [if_neg h2, if_neg]
     rw [inB_iff, List.mem_append, List.mem_singleton]
     rw [inB_iff] at h2
     rintro (h | h)
     · exact h2 h
     · exact e h
def funOk (m : Mp) (n : S35) (f : ByteArray) : Bool := !(m.nodes f).isSome && !sameS f n.f0
def head0 (m : Mp) (n : S35) : Bool := !(m.nodes n.f0).isSome && (unlikeB (n.f1 ++ n.f2) && unlikeB n.f3)
def headB (m : Mp) (n : S35) : Bool := head0 m n && n.f1.all (funOk m n)
theorem getI (F : ByteArray → Option Int) (s : ByteArray) : ∃ c : Int, (menc encI F s).getD (.int .i64 0) = .int .i64 c := by unfold menc; cases F s with | none => exact ⟨0, rfl⟩ | some x => exact ⟨x, rfl⟩
def HeadPost (base : Nat) (B : Bk) (pe pn : Value) (m : Mp) (n : S35) (n0 n1 n2 n3 n4 : Value) (w0 : World) (e : Ending) (w' : World) : Prop :=
 ∃ I : Ik, e = .returned (.tuple #[.pointer (some ⟨I.inn, 0, none⟩), .bool (headB m n)]) ∧ Below w0.heap.size w0 w' ∧ IAt base w' B I pe pn m n0 n1 n2 n3 n4 (mkM 0 n.f2) (mkM 1 n.f1)
set_option maxHeartbeats 16000000 in
theorem head_calls (n : S35) (A1 A2 A3 A4 Ae An : Option Addr) (c1 c2 c3 c4 ne ce nn cn : Nat) (w0 w : World) (l1 : n.f1.length ≤ c1) (g1 : Kd.string.C w0 A1 n.f1.length n.f1) (l2 : n.f2.length ≤ c2) (g2 : Kd.string.C w0 A2 n.f2.length n.f2) (l3 : n.f3.length ≤ c3) (g3 : Kd.string.C w0 A3 n.f3.length n.f3) (hw : Below w0.heap.size w0 w) (bw : Nat) (hbw : bw ≤ w0.heap.size) (B : Bk) (m : Mp) (h : WAt bw w B (.slice Ae ne ce) (.slice An nn cn) m) (hl : n.f1.length ≤ 100 ∧ n.f2.length ≤ 100) :
   Calls Tryz.prog 31 #[.pointer (some ⟨B.wd, 0, none⟩), .agg #[.string n.f0, .slice A1 n.f1.length c1, .slice A2 n.f2.length c2, .slice A3 n.f3.length c3, .slice A4 n.f4.length c4]] w (HeadPost bw B (.slice Ae ne ce) (.slice An nn cn) m n (.string n.f0) (.slice A1 n.f1.length c1) (.slice A2 n.f2.length c2) (.slice A3 n.f3.length c3) (.slice A4 n.f4.length c4) w0) := by
 have HB := Aside0.mk hw
 have HW := Aside0.mk h
 have G1 := Aside0.mk g1; have G2 := Aside0.mk g2; have G3 := Aside0.mk g3; have HL := Aside0.mk hl
 clear hw h g1 g2 g3 hl l1 l2 l3
 have hu := Tryz.underlying60
 have hu2 := Tryz.underlying83
 have hu3 := Tryz.underlying35
 have hm1 := Tryz.underlying58
 have hk := Tryz.underlying9
 have hz : ∀ W, (zeroValue 3).run Tryz.prog W = .ok (.int .i64 0) W := fun W => by kernel_rfl
 have HD := Aside0.mk (show headB m n = (head0 m n && n.f1.all (funOk m n)) from rfl)
 have H0 := Aside0.mk (show head0 m n = (!(m.nodes n.f0).isSome && (unlikeB (n.f1 ++ n.f2) && unlikeB n.f3)) from rfl)
 generalize head0 m n = hd0 at HD H0
 go_enter Tryz.func31, Tryz.ntmps31
 go_wp2_with (first | ((with_reducible refine gate_dst (N := 3) rfl ?_); refine box_event ?hg (N := 3) ?hd (cs := #[.string n.f0, .slice A1 n.f1.length c1, .slice A2 n.f2.length c2, .slice A3 n.f3.length c3, .slice A4 n.f4.length c4]) (t := 35) ?hr ?_; (case hd => rfl); (case hg => rfl); (case hr => first | (go_simp; done) | (go_simp; rfl)); intro gn hg_ w_ hbox hb; have hb_ := hb; have BN := Aside0.mk hbox; have LBN := Aside0.mk ((by rw [hg_]; exact below_size HB.out) : w0.heap.size ≤ gn); replace HB := Aside0.mk (below_step HB.out hb); clear hb hbox hg_; replace HW := Aside0.mk (HW.out.below hb_); have cn_0 := (blk_cell BN.out 0).trans rfl; have cn_1 := (blk_cell BN.out 1).trans rfl; have cn_2 := (blk_cell BN.out 2).trans rfl; have cn_3 := (blk_cell BN.out 3).trans rfl; have cn_4 := (blk_cell BN.out 4).trans rfl) | ((with_reducible refine gate_dst (N := 17) rfl ?_); refine make_str rfl _ rfl ?_; intro bv hg_ w_ hm hb; have HV := Aside0.mk hm; have LV := Aside0.mk (show w0.heap.size ≤ bv by rw [hg_]; exact HB.out.size); have NV := Aside0.mk (show bv ≠ B.cons ∧ bv ≠ B.enums ∧ bv ≠ B.nodes ∧ bv ≠ B.states by have h1 := HW.out.cons.lt; have h2 := HW.out.enums.lt; have h3 := HW.out.nodes.lt; have h4 := HW.out.states.lt; rw [hg_]; omega); replace HW := Aside0.mk (HW.out.below hb); replace BN := Aside0.mk (below_blk BN.out hb); replace HB := Aside0.mk (below_step HB.out hb); clear hm hb hg_) | ((with_reducible refine gate_dst (N := 18) rfl ?_); refine make_str rfl _ rfl ?_; intro bf hg_ w_ hm hb; have HFn := Aside0.mk hm; have LF := Aside0.mk (show w0.heap.size ≤ bf by rw [hg_]; exact HB.out.size); have NF := Aside0.mk (show bv ≠ bf ∧ (bf ≠ B.cons ∧ bf ≠ B.enums ∧ bf ≠ B.nodes ∧ bf ≠ B.states) by have h1 := HW.out.cons.lt; have h2 := HW.out.enums.lt; have h3 := HW.out.nodes.lt; have h4 := HW.out.states.lt; have h5 := HV.out.lt; rw [hg_]; omega); replace HW := Aside0.mk (HW.out.below hb); replace BN := Aside0.mk (below_blk BN.out hb); replace HV := Aside0.mk (HV.out.below hb); replace HB := Aside0.mk (below_step HB.out hb); clear hm hb hg_) | ((with_reducible refine gate_dst (N := 20) rfl ?_); refine box_event ?hg (N := 20) ?hd (cs := #[.pointer (some ⟨B.wd, 0, none⟩), .string n.f0, .slice A1 n.f1.length c1, .slice A2 n.f2.length c2, .slice A3 n.f3.length c3, .slice A4 n.f4.length c4, .map (some bv), .map (some bf)]) (t := 83) ?hr ?_; (case hd => rfl); (case hg => rfl); (case hr => first | (go_simp; done) | (go_simp; rfl)); intro gi hg_ w7 hbox hb; have HI := Aside0.mk (show IAt bw w7 B ⟨gi, bv, bf⟩ (.slice Ae ne ce) (.slice An nn cn) m (.string n.f0) (.slice A1 n.f1.length c1) (.slice A2 n.f2.length c2) (.slice A3 n.f3.length c3) (.slice A4 n.f4.length c4) (fun _ => none) (fun _ => none) from ⟨hbox, HW.out.below hb, HV.out.below hb, HFn.out.below hb, ⟨NF.out.1, NV.out, NF.out.2⟩, ⟨by rw [hg_]; exact Nat.le_trans hbw HB.out.size, Nat.le_trans hbw LV.out, Nat.le_trans hbw LF.out⟩⟩); replace BN := Aside0.mk (below_blk BN.out hb); replace HB := Aside0.mk (below_step HB.out hb); clear hb hbox hg_))
 obtain ⟨I, hI⟩ : ∃ I : Ik, I = ⟨gi, bv, bf⟩ := ⟨_, rfl⟩
 rw [← hI] at HI
 have LW := Aside0.mk (show w0.heap.size ≤ I.vars ∧ w0.heap.size ≤ I.funs by rw [hI]; exact ⟨LV.out, LF.out⟩)
 clear HW HV HFn NV NF LV LF
 have hi1 : gi = I.inn := by rw [hI]
 rw [show gi = I.inn by rw [hI]]
 clear hI hi1 cn_0 cn_1 cn_2 cn_3 cn_4
 obtain ⟨cc, hcc⟩ := getI m.nodes n.f0
 have HQQ := Aside0.mk (menc_isSome encI m.nodes n.f0)
 generalize hqq : (m.nodes n.f0).isSome = qq at HQQ H0
 clear hqq
 have hlk := fun k => (show StrMap (w7.drewN k) B.nodes (menc encI m.nodes) from HI.out.wat.nodes).look hm1 hk (hz _) n.f0 true
 simp only [if_true, hcc, HQQ.out] at hlk
 clear hcc HQQ
 have cw0 := (blk_cell HI.out.wat.wd 0).trans rfl
 have cw1 := (blk_cell HI.out.wat.wd 1).trans rfl
 have cw2 := (blk_cell HI.out.wat.wd 2).trans rfl
 have cw3 := (blk_cell HI.out.wat.wd 3).trans rfl
 have cw4 := (blk_cell HI.out.wat.wd 4).trans rfl
 have cw5 := (blk_cell HI.out.wat.wd 5).trans rfl
 have cn_0 := (blk_cell BN.out 0).trans rfl
 have cn_1 := (blk_cell BN.out 1).trans rfl
 have cn_2 := (blk_cell BN.out 2).trans rfl
 have cn_3 := (blk_cell BN.out 3).trans rfl
 have cn_4 := (blk_cell BN.out 4).trans rfl
 go_quiet (fail)
 have HB_ := Aside0.mk (pw_below_drewN HB.out nq); clear HB
 have HI_ := Aside0.mk (IAt.drewN HI.out nq); clear HI
 have BN_ := Aside0.mk (blk_drewN BN.out nq); clear BN
 clear hlk
 clear cw0 cw1 cw2 cw3 cw4 cw5
 clear cn_0 cn_1 cn_2 cn_3 cn_4
 generalize w7.drewN nq = w8 at HB_ HI_ BN_ ⊢
 have HB := HB_; have HI := HI_; have BN := BN_; clear HB_ HI_ BN_
 have cw0 := (blk_cell HI.out.wat.wd 0).trans rfl
 have cw1 := (blk_cell HI.out.wat.wd 1).trans rfl
 have cw2 := (blk_cell HI.out.wat.wd 2).trans rfl
 have cw3 := (blk_cell HI.out.wat.wd 3).trans rfl
 have cw4 := (blk_cell HI.out.wat.wd 4).trans rfl
 have cw5 := (blk_cell HI.out.wat.wd 5).trans rfl
 have cn_0 := (blk_cell BN.out 0).trans rfl
 have cn_1 := (blk_cell BN.out 1).trans rfl
 have cn_2 := (blk_cell BN.out 2).trans rfl
 have cn_3 := (blk_cell BN.out 3).trans rfl
 have cn_4 := (blk_cell BN.out 4).trans rfl
 have hcon := fun (W : World) (g : Nat) (hg : W.heap[g]? = some (.cells #[.slice A1 n.f1.length c1, .slice A2 n.f2.length c2] 32 (0, 0))) (hB : Below w0.heap.size w0 W) => concat_calls n.f1 n.f2 A1 A2 c1 c2 g W hg (Kd.C_below G1.out hB) (Kd.C_below G2.out hB) HL.out
 have hou := fun (W : World) (hB : Below w0.heap.size w0 W) => unlike_calls A3 c3 n.f3 W (Kd.C_below G3.out hB)
 generalize n.f1 ++ n.f2 = both at hcon H0
 generalize unlikeB n.f3 = u2 at hou H0
 go_upto_region 3 with (fail)
 go_cut [8] from 31 to 46 (fun s8 wx => ∃ q : Bool, s8 = .bool q ∧ Aside0 (hd0 = q) ∧ Aside0 (Below w0.heap.size w0 wx) ∧ Aside0 (wx.heap[gn]? = some (.cells #[.string n.f0, .slice A1 n.f1.length c1, .slice A2 n.f2.length c2, .slice A3 n.f3.length c3, .slice A4 n.f4.length c4] 35 (0, 0))) ∧ Aside0 (IAt bw wx B I (.slice Ae ne ce) (.slice An nn cn) m (.string n.f0) (.slice A1 n.f1.length c1) (.slice A2 n.f2.length c2) (.slice A3 n.f3.length c3) (.slice A4 n.f4.length c4) (fun _ => none) (fun _ => none)))
 case first =>
   cases qq with
   | true =>
     clear hcon hou
     have H0X := Aside0.mk (show hd0 = false by rw [H0.out]; rfl)
     go_wp2_with fail
     go_meet
     case rel => exact ⟨false, rfl, H0X, HB, BN, HI⟩
   | false =>
     go_wp2_with fail
     refine (hcon _ _ (blk_new _ _) (below_alloc HB.out _)).mono ?_
     rintro e w10 ⟨v, rfl, hr, hb⟩
     have hb2 := below_step (below_alloc (Below.refl w8.heap.size w8) (.cells #[.slice A1 n.f1.length c1, .slice A2 n.f2.length c2] 32 (0, 0))) hb
     obtain ⟨Ab, cb, rfl, hcb, hCb⟩ := Kd.R_reads hr
     have HCB := Aside0.mk hCb
     replace HI := Aside0.mk (HI.out.below hb2)
     replace BN := Aside0.mk (below_blk BN.out hb2)
     replace HB := Aside0.mk (below_step HB.out hb2)
     clear hr hb hb2 hcb hCb hcon cw0 cw1 cw2 cw3 cw4 cw5 cn_0 cn_1 cn_2 cn_3 cn_4
     have hun := fun (W : World) (hC : Kd.string.C W Ab both.length both) => unlike_calls Ab cb both W hC
     generalize unlikeB both = u1 at hun H0
     have cn_0 := (blk_cell BN.out 0).trans rfl
     have cn_1 := (blk_cell BN.out 1).trans rfl
     have cn_2 := (blk_cell BN.out 2).trans rfl
     have cn_3 := (blk_cell BN.out 3).trans rfl
     have cn_4 := (blk_cell BN.out 4).trans rfl
     go_wp2_with fail
     refine (hun _ HCB.out).mono ?_
     rintro e w11 ⟨rfl, hb⟩
     replace HI := Aside0.mk (HI.out.below hb)
     replace BN := Aside0.mk (below_blk BN.out hb)
     replace HB := Aside0.mk (below_step HB.out hb)
     clear hb hun
     clear cn_0 cn_1 cn_2 cn_3 cn_4
     cases u1 with
     | false =>
       have H0X := Aside0.mk (show hd0 = false by rw [H0.out]; rfl)
       have cn_0 := (blk_cell BN.out 0).trans rfl
       have cn_1 := (blk_cell BN.out 1).trans rfl
       have cn_2 := (blk_cell BN.out 2).trans rfl
       have cn_3 := (blk_cell BN.out 3).trans rfl
       have cn_4 := (blk_cell BN.out 4).trans rfl
       go_wp2_with fail
       go_meet
       case rel => exact ⟨false, rfl, H0X, HB, BN, HI⟩
     | true =>
       have cn_0 := (blk_cell BN.out 0).trans rfl
       have cn_1 := (blk_cell BN.out 1).trans rfl
       have cn_2 := (blk_cell BN.out 2).trans rfl
       have cn_3 := (blk_cell BN.out 3).trans rfl
       have cn_4 := (blk_cell BN.out 4).trans rfl
       go_wp2_with fail
       refine (hou _ HB.out).mono ?_
       rintro e w12 ⟨rfl, hb⟩
       replace HI := Aside0.mk (HI.out.below hb)
       replace BN := Aside0.mk (below_blk BN.out hb)
       replace HB := Aside0.mk (below_step HB.out hb)
       clear hb hou
       clear cn_0 cn_1 cn_2 cn_3 cn_4
       have H0X := Aside0.mk (show hd0 = u2 by rw [H0.out]; rfl)
       go_wp2_with fail
       go_meet
       case rel => exact ⟨u2, rfl, H0X, HB, BN, HI⟩
 case rest =>
   clear HB BN HI cw0 cw1 cw2 cw3 cw4 cw5 cn_0 cn_1 cn_2 cn_3 cn_4
   clear H0 hcon hou
   obtain ⟨q0, rfl, H0X, HB, BN, HI⟩ := hcut
   have cn_0 := (blk_cell BN.out 0).trans rfl
   have cn_1 := (blk_cell BN.out 1).trans rfl
   have cn_2 := (blk_cell BN.out 2).trans rfl
   have cn_3 := (blk_cell BN.out 3).trans rfl
   have cn_4 := (blk_cell BN.out 4).trans rfl
   have cw0 := (blk_cell HI.out.wat.wd 0).trans rfl
   have cw1 := (blk_cell HI.out.wat.wd 1).trans rfl
   have cw2 := (blk_cell HI.out.wat.wd 2).trans rfl
   have cw3 := (blk_cell HI.out.wat.wd 3).trans rfl
   have cw4 := (blk_cell HI.out.wat.wd 4).trans rfl
   have cw5 := (blk_cell HI.out.wat.wd 5).trans rfl
   go_wp2_with fail
   clear cw0 cw1 cw2 cw3 cw4 cw5 cn_0 cn_1 cn_2 cn_3 cn_4
   go_loopg [8, 50] n.f1.length (fun gg s8 s50 wr => ∃ (kk : Nat) (q : Bool), kk ≤ n.f1.length ∧ n.f1.length - kk ≤ gg ∧ s50 = .int .i64 kk ∧ s8 = .bool q ∧ Aside0 (q = (hd0 && (n.f1.take kk).all (funOk m n))) ∧ Aside0 (Below w0.heap.size w0 wr) ∧ Aside0 (wr.heap[gn]? = some (.cells #[.string n.f0, .slice A1 n.f1.length c1, .slice A2 n.f2.length c2, .slice A3 n.f3.length c3, .slice A4 n.f4.length c4] 35 (0, 0))) ∧ Aside0 (IAt bw wr B I (.slice Ae ne ce) (.slice An nn cn) m (.string n.f0) (.slice A1 n.f1.length c1) (.slice A2 n.f2.length c2) (.slice A3 n.f3.length c3) (.slice A4 n.f4.length c4) (fun _ => none) (mkM 1 (n.f1.take kk))))
   case atStart => exact ⟨0, q0, Nat.zero_le _, by omega, rfl, rfl, ⟨by rw [H0X.out]; simp⟩, HB, BN, ⟨by rw [List.take_zero, mkM_nil]; exact HI.out⟩⟩
   case round =>
     clear HB BN HI H0X
     obtain ⟨kk, q, hkk, hg, rfl, rfl, Q, HB, BN, HI⟩ := hrel
     have hmx : n.f1.length ≤ 9223372036854775807 := (G1.out).2.1
     by_cases hlt : kk < n.f1.length
     · have hltz : (kk : Int) < (n.f1.length : Int) := by omega
       have HTK := Aside0.mk (take_snoc' n.f1 (⟨#[]⟩ : ByteArray) kk hlt)
       have HMK := Aside0.mk (mkM_snoc 1 n.f1 (⟨#[]⟩ : ByteArray) kk hlt)
       obtain ⟨fad, fcs, rfl, _, fK, fcc⟩ := Kd.C_get G1.out (⟨#[]⟩ : ByteArray) (kk : Int) (by omega) (by omega)
       obtain rfl := fK
       have fx0 := (HB.out.cell (World.block_lt_of_cell? w0 _ (fcc 0 _ rfl))).trans (fcc 0 _ rfl)
       simp only [show Kd.string.sz = 1 from rfl, Nat.mul_one, Nat.add_zero, Int.toNat_natCast] at fx0
       clear fcc
       try simp only [Int.toNat_natCast] at fx0
       generalize Yf0 : n.f1.getD kk (⟨#[]⟩ : ByteArray) = f at fx0
       have Yf := Aside0.mk Yf0; clear Yf0
       have h := HTK.out
       rw [Yf.out] at h
       have HTK2 := Aside0.mk h
       clear h
       have h := HMK.out
       rw [Yf.out] at h
       have HMK2 := Aside0.mk h
       clear h
       clear HTK HMK
       obtain ⟨cc, hcc⟩ := getI m.nodes f
       have HCC := Aside0.mk hcc; clear hcc
       have HQQ := Aside0.mk (menc_isSome encI m.nodes f)
       have HFO := Aside0.mk (show funOk m n f = (!(m.nodes f).isSome && !sameS f n.f0) from rfl)
       generalize hqq : (m.nodes f).isSome = qq at HQQ HFO
       clear hqq
       have HSM := Aside0.mk (sameS_eq f n.f0)
       generalize sameS f n.f0 = sm at HSM HFO
       have cw0 := (blk_cell HI.out.wat.wd 0).trans rfl
       have cw1 := (blk_cell HI.out.wat.wd 1).trans rfl
       have cw2 := (blk_cell HI.out.wat.wd 2).trans rfl
       have cw3 := (blk_cell HI.out.wat.wd 3).trans rfl
       have cw4 := (blk_cell HI.out.wat.wd 4).trans rfl
       have cw5 := (blk_cell HI.out.wat.wd 5).trans rfl
       have cn_0 := (blk_cell BN.out 0).trans rfl
       have cn_1 := (blk_cell BN.out 1).trans rfl
       have cn_2 := (blk_cell BN.out 2).trans rfl
       have cn_3 := (blk_cell BN.out 3).trans rfl
       have cn_4 := (blk_cell BN.out 4).trans rfl
       have ci0 := (blk_cell HI.out.inn 0).trans rfl
       have ci1 := (blk_cell HI.out.inn 1).trans rfl
       have ci2 := (blk_cell HI.out.inn 2).trans rfl
       have ci3 := (blk_cell HI.out.inn 3).trans rfl
       have ci4 := (blk_cell HI.out.inn 4).trans rfl
       have ci5 := (blk_cell HI.out.inn 5).trans rfl
       have ci6 := (blk_cell HI.out.inn 6).trans rfl
       have ci7 := (blk_cell HI.out.inn 7).trans rfl
       have hs1 := HSM.out
       have hs3 : (f.toList != n.f0.toList) = !sm := by rw [bne, hs1]
       clear HSM
       have hend : ∀ (w9 : World), StrMap w9 I.funs (mupd (menc encI (mkM 1 (n.f1.take kk))) f (.int .i64 1)) → wr.grownBy w9 (some I.funs) → Below w0.heap.size w0 w9 ∧ w9.heap[gn]? = some (.cells #[.string n.f0, .slice (some fad) n.f1.length c1, .slice A2 n.f2.length c2, .slice A3 n.f3.length c3, .slice A4 n.f4.length c4] 35 (0, 0)) ∧ IAt bw w9 B I (.slice Ae ne ce) (.slice An nn cn) m (.string n.f0) (.slice (some fad) n.f1.length c1) (.slice A2 n.f2.length c2) (.slice A3 n.f3.length c3) (.slice A4 n.f4.length c4) (fun _ => none) (mkM 1 (n.f1.take (kk + 1))) := by
         intro w9 hm hg9
         have HT9 := Turned.of_grown (S := fun k => k = I.funs) hg9 (fun k hk => by cases hk; rfl)
         exact ⟨HT9.below HB.out HB.out.size (fun k hk => by rw [hk]; exact LW.out.2), HT9.blk BN.out (fun e => (HI.out.funs.ne BN.out) e.symm), HI.out.funs' HT9 (F := mkM 1 (n.f1.take (kk + 1))) (by rw [← HMK2.out, ← menc_mupd]; exact hm)⟩
       have HEND := Aside0.mk hend; clear hend
       cases q with
       | false =>
         go_wp2_with (first | (at_lookup; refine look_str_ok rfl _ _ 58 rfl 9 3 hm1 hk _ (hz _) B.nodes _ rfl HI.out.wat.nodes f rfl (.int .i64 cc) _ HCC.out HQQ.out ?_) | (at_mapUpdate; refine store_str rfl _ _ _ 58 rfl 9 3 hm1 hk I.funs _ rfl HI.out.funs f rfl (.int .i64 1) rfl ?_; intro w9 hm hg9; have HM := Aside0.mk (HEND.out w9 hm hg9); clear hm hg9))
         go_roundg (n.f1.length - (kk + 1))
         case measure => omega
         case rel => exact ⟨kk + 1, _, by omega, by omega, by go_num, rfl, ⟨by rw [HTK2.out, List.all_append]; simp only [List.all_cons, List.all_nil, HFO.out]; have h := Q.out; revert h; cases hd0 <;> cases (n.f1.take kk).all (funOk m n) <;> simp⟩, ⟨HM.out.1⟩, ⟨HM.out.2.1⟩, ⟨HM.out.2.2⟩⟩
       | true =>
         cases qq with
         | true =>
           go_wp2_with (first | (at_lookup; refine look_str_ok rfl _ _ 58 rfl 9 3 hm1 hk _ (hz _) B.nodes _ rfl HI.out.wat.nodes f rfl (.int .i64 cc) _ HCC.out HQQ.out ?_) | (at_mapUpdate; refine store_str rfl _ _ _ 58 rfl 9 3 hm1 hk I.funs _ rfl HI.out.funs f rfl (.int .i64 1) rfl ?_; intro w9 hm hg9; have HM := Aside0.mk (HEND.out w9 hm hg9); clear hm hg9))
           go_roundg (n.f1.length - (kk + 1))
           case measure => omega
           case rel => exact ⟨kk + 1, _, by omega, by omega, by go_num, rfl, ⟨by rw [HTK2.out, List.all_append]; simp only [List.all_cons, List.all_nil, HFO.out]; have h := Q.out; revert h; cases hd0 <;> cases (n.f1.take kk).all (funOk m n) <;> simp⟩, ⟨HM.out.1⟩, ⟨HM.out.2.1⟩, ⟨HM.out.2.2⟩⟩
         | false =>
           go_wp2_with (first | (at_lookup; refine look_str_ok rfl _ _ 58 rfl 9 3 hm1 hk _ (hz _) B.nodes _ rfl HI.out.wat.nodes f rfl (.int .i64 cc) _ HCC.out HQQ.out ?_) | (at_mapUpdate; refine store_str rfl _ _ _ 58 rfl 9 3 hm1 hk I.funs _ rfl HI.out.funs f rfl (.int .i64 1) rfl ?_; intro w9 hm hg9; have HM := Aside0.mk (HEND.out w9 hm hg9); clear hm hg9))
           go_roundg (n.f1.length - (kk + 1))
           case measure => omega
           case rel => exact ⟨kk + 1, _, by omega, by omega, by go_num, rfl, ⟨by rw [HTK2.out, List.all_append]; simp only [List.all_cons, List.all_nil, HFO.out]; have h := Q.out; revert h; cases hd0 <;> cases (n.f1.take kk).all (funOk m n) <;> simp⟩, ⟨HM.out.1⟩, ⟨HM.out.2.1⟩, ⟨HM.out.2.2⟩⟩
     · have hltz : ¬ (kk : Int) < (n.f1.length : Int) := by omega
       obtain rfl : kk = n.f1.length := by omega
       have h := Q.out
       rw [List.take_length] at h
       have Q2 := Aside0.mk h
       clear h
       have h := HI.out
       rw [List.take_length] at h
       have HI2 := Aside0.mk h
       clear h
       clear Q HI
       have HI := HI2; clear HI2
       have HQF := Aside0.mk (show headB m n = q by rw [HD.out, Q2.out])
       clear Q2
       have cn_0 := (blk_cell BN.out 0).trans rfl
       have cn_1 := (blk_cell BN.out 1).trans rfl
       have cn_2 := (blk_cell BN.out 2).trans rfl
       have cn_3 := (blk_cell BN.out 3).trans rfl
       have cn_4 := (blk_cell BN.out 4).trans rfl
       go_wp2_with fail
       clear cn_0 cn_1 cn_2 cn_3 cn_4
       go_loopg [83] n.f2.length (fun gg s_ wr => ∃ (kk : Nat), kk ≤ n.f2.length ∧ n.f2.length - kk ≤ gg ∧ s_ = .int .i64 kk ∧ Aside0 (Below w0.heap.size w0 wr) ∧ Aside0 (IAt bw wr B I (.slice Ae ne ce) (.slice An nn cn) m (.string n.f0) (.slice A1 n.f1.length c1) (.slice A2 n.f2.length c2) (.slice A3 n.f3.length c3) (.slice A4 n.f4.length c4) (mkM 0 (n.f2.take kk)) (mkM 1 n.f1)))
       case atStart => exact ⟨0, Nat.zero_le _, by omega, rfl, HB, ⟨by rw [List.take_zero, mkM_nil]; exact HI.out⟩⟩
       case round =>
         clear HB HI
         obtain ⟨kk, hkk, hg, rfl, HB, HI⟩ := hrel
         have hmx2 : n.f2.length ≤ 9223372036854775807 := (G2.out).2.1
         by_cases hlt : kk < n.f2.length
         · have hltz : (kk : Int) < (n.f2.length : Int) := by omega
           have HMK := Aside0.mk (mkM_snoc 0 n.f2 (⟨#[]⟩ : ByteArray) kk hlt)
           obtain ⟨xad, xcs, rfl, _, xK, xcc⟩ := Kd.C_get G2.out (⟨#[]⟩ : ByteArray) (kk : Int) (by omega) (by omega)
           obtain rfl := xK
           have xx0 := (HB.out.cell (World.block_lt_of_cell? w0 _ (xcc 0 _ rfl))).trans (xcc 0 _ rfl)
           simp only [show Kd.string.sz = 1 from rfl, Nat.mul_one, Nat.add_zero, Int.toNat_natCast] at xx0
           clear xcc
           try simp only [Int.toNat_natCast] at xx0
           generalize Yx0 : n.f2.getD kk (⟨#[]⟩ : ByteArray) = x at xx0
           have Yx := Aside0.mk Yx0; clear Yx0
           have h := HMK.out
           rw [Yx.out] at h
           have HMK2 := Aside0.mk h
           clear h
           clear HMK
           have ci0 := (blk_cell HI.out.inn 0).trans rfl
           have ci1 := (blk_cell HI.out.inn 1).trans rfl
           have ci2 := (blk_cell HI.out.inn 2).trans rfl
           have ci3 := (blk_cell HI.out.inn 3).trans rfl
           have ci4 := (blk_cell HI.out.inn 4).trans rfl
           have ci5 := (blk_cell HI.out.inn 5).trans rfl
           have ci6 := (blk_cell HI.out.inn 6).trans rfl
           have ci7 := (blk_cell HI.out.inn 7).trans rfl
           go_wp2_with (at_mapUpdate; refine store_str rfl _ _ _ 58 rfl 9 3 hm1 hk I.vars _ rfl HI.out.vars x rfl (.int .i64 0) rfl ?_; intro w9 hm hg9; have HM := Aside0.mk hm; have HG9 := Aside0.mk hg9; clear hm hg9)
           have HT9 := Aside0.mk (Turned.of_grown (S := fun k => k = I.vars) HG9.out (fun k hk => by cases hk; rfl))
           have HB9 := Aside0.mk (HT9.out.below HB.out HB.out.size (fun k hk => by rw [hk]; exact LW.out.1))
           have HI9 := Aside0.mk (HI.out.vars' HT9.out (F := mkM 0 (n.f2.take (kk + 1))) (by rw [← HMK2.out, ← menc_mupd]; exact HM.out))
           clear HT9 HM HG9
           go_roundg (n.f2.length - (kk + 1))
           case measure => omega
           case rel => exact ⟨kk + 1, by omega, by omega, by go_num, HB9, HI9⟩
         · have hltz : ¬ (kk : Int) < (n.f2.length : Int) := by omega
           obtain rfl : kk = n.f2.length := by omega
           have h := HI.out
           rw [List.take_length] at h
           have HI2 := Aside0.mk h
           clear h
           go_wp2_with fail
           go_ret2
           exact ⟨I, by rw [HQF.out]; rfl, HB.out, HI2.out⟩
end Go.Proofs.YtggfnbnochmkdaaGreat
