/- Package scope: whole, call. -/
import Derived.Test.YtggfnbnochmkdaaGreatSg
namespace Go.Proofs.YtggfnbnochmkdaaGreat
open Go Go.RowKit Go.Lib Go.Proofs.YtggfnbnochmkdaaGreatW.PrintWords Go.Proofs.YtggfnbnochmkdaaGreat.PScope
set_option maxRecDepth 100000
set_option linter.unusedSimpArgs false
set_option linter.unusedVariables false
def truths : List ByteArray := [falseS, trueS]
def wholeB (es : List S38) (cons : List ByteArray) : Bool := sameL cons truths || es.any (fun t => sameL t.f1 cons)
theorem whole1_eg : ∀ args w, (callFunc 104 args).run Tryz.prog w = .ok (.enter 104 args) w := enters_of Tryz.func104 (by kernel_rfl) rfl
theorem whole1_calls (x : S38) (cons : List ByteArray) (A : Option Addr) (c gb : Nat) (w : World) (csx : List Value) (hK : k38.K w x csx) (hC : Kd.string.C w A cons.length cons) (hb : w.heap[gb]? = some (.cells #[.slice A cons.length c] 32 (0, 0))) :
   Calls Tryz.prog 104 #[.agg csx.toArray, .pointer (some ⟨gb, 0, none⟩)] w fun e w' => e = .returned (.bool (sameL x.f1 cons)) ∧ Below w.heap.size w w' := by
 obtain ⟨A1, c1, rfl, l1, g1⟩ := k38_open hK
 have hcall := fun W (hB : Below w.heap.size w W) => sequal_calls A1 A c1 c x.f1 cons W (Kd.C_below g1 hB) (Kd.C_below hC hB)
 have h0 := fun o => (blk_cell (blk_alloc hb o) 0).trans rfl
 have hu := Tryz.underlying38
 clear hb hK l1 g1 hC
 generalize sameL x.f1 cons = b at hcall ⊢
 go_enter Tryz.func104, Tryz.ntmps104
 go_wp2_with fail
 refine (hcall _ (below_alloc (Below.refl _ _) _)).mono ?_; rintro e w1 ⟨rfl, hb1⟩
 go_wp2_with fail
 go_ret
 exact ⟨rfl, below_step (below_alloc (Below.refl _ _) _) hb1⟩
theorem whole_any (w0 W : World) (A : Option Addr) (c : Nat) (es : List S38) (hE : k38.C w0 A es.length es) (cons : List ByteArray) (Ac : Option Addr) (cc gb : Nat) (hC : Kd.string.C w0 Ac cons.length cons) (hB : Below w0.heap.size w0 W) (hb : W.heap[gb]? = some (.cells #[.slice Ac cons.length cc] 32 (0, 0))) :
   Calls Tryz.prog 103 #[.slice A es.length c, .func (.func 104) #[] #[.pointer (some ⟨gb, 0, none⟩)]] W fun e w' => e = .returned (.bool (es.any (fun t => sameL t.f1 cons))) ∧ Below W.heap.size W w' := by
 refine (ct_Enum _ _ whole1_eg w0 W A c es hE (fun i => sameL (es.getD i z38).f1 cons) (fun _ W' => Below W.heap.size W W') (fun _ W' => Below W.heap.size W W') (fun _ W' h => below_step hB h) ?_ (Below.refl _ _)).mono ?_
 · intro i W' ds hi hI hKd
   refine (whole1_calls _ cons Ac cc gb W' ds (Kd.K_below _ (below_step hB hI) hKd) (Kd.C_below hC (below_step hB hI)) (below_blk hb hI)).mono ?_
   rintro e w' ⟨rfl, hb'⟩
   exact ⟨rfl, fun _ => below_step hI hb', fun _ => below_step hI hb'⟩
 · intro e w' h
   exact CtPost.any (q := fun t : S38 => sameL t.f1 cons) (z := z38) (I := fun W' => Below W.heap.size W W') h
set_option maxHeartbeats 4000000 in
theorem whole_calls (es : List S38) (Ae An Ac : Option Addr) (ce nn cn cc : Nat) (cons : List ByteArray) (w0 w : World) (he : k38.C w0 Ae es.length es) (hc : Kd.string.C w0 Ac cons.length cons) (hw : Below w0.heap.size w0 w) (base : Nat) (B : Bk) (m : Mp) (h : WAt base w B (.slice Ae es.length ce) (.slice An nn cn) m) :
   Calls Tryz.prog 79 #[.pointer (some ⟨B.wd, 0, none⟩), .slice Ac cons.length cc] w fun e w' => e = .returned (.bool (wholeB es cons)) ∧ Below w.heap.size w w' := by
 have heq := fun (W : World) (hB : Below w0.heap.size w0 W) (g : Nat) (hg : W.heap[g]? = some (.cells (truths.map Value.string).toArray 9 (0, 0))) => sequal_calls Ac (some ⟨g, 0, none⟩) cc 2 cons truths W (Kd.C_below hc hB) (lit_strs truths hg rfl (by decide))
 have han := fun (W : World) (gb : Nat) (hB : Below w0.heap.size w0 W) (hb : W.heap[gb]? = some (.cells #[.slice Ac cons.length cc] 32 (0, 0))) => whole_any w0 W Ae ce es he cons Ac cc gb hc hB hb
 clear he hc
 have HB := Aside0.mk hw
 have HX := Aside0.mk (Below.refl w.heap.size w)
 have HW := Aside0.mk h
 clear hw h
 have hu := Tryz.underlying25
 have hu2 := Tryz.underlying60
 unfold wholeB
 generalize sameL cons truths = b1 at heq ⊢
 generalize es.any (fun t => sameL t.f1 cons) = b2 at han ⊢
 go_enter Tryz.func79, Tryz.ntmps79
 go_wp2_with ((with_reducible refine gate_dst (N := 3) rfl ?_); refine box_event ?hg (N := 3) ?hd (cs := #[.slice Ac cons.length cc]) (t := 32) ?hr ?_; (case hd => rfl); (case hg => rfl); (case hr => first | (go_simp; done) | (go_simp; rfl)); intro g3 hg_ w3 hbox hb; have B3 := Aside0.mk hbox; have LB3 := Aside0.mk ((by rw [hg_]; exact below_size HB.out) : w0.heap.size ≤ g3); replace HB := Aside0.mk (below_step HB.out hb); replace HX := Aside0.mk (below_step HX.out hb); replace HW := Aside0.mk (HW.out.below hb); clear hb hbox hg_; have c30 := (blk_cell B3.out 0).trans rfl)
 refine (heq (w3.alloc _) (below_alloc HB.out _) w3.heap.size (blk_new _ _)).mono ?_
 rintro e w5 ⟨rfl, hb⟩
 have hb2 := below_step (below_alloc (Below.refl w3.heap.size w3) (.cells (truths.map Value.string).toArray 9 (0, 0))) hb
 replace B3 := Aside0.mk (below_blk B3.out hb2)
 replace HB := Aside0.mk (below_step HB.out hb2)
 replace HX := Aside0.mk (below_step HX.out hb2)
 replace HW := Aside0.mk (HW.out.below hb2)
 clear hb hb2 heq c30
 cases b1 with
 | true =>
   go_wp2_with fail
   go_ret
   exact ⟨rfl, HX.out⟩
 | false =>
 have cw0 := (blk_cell HW.out.wd 0).trans rfl
 have cw1 := (blk_cell HW.out.wd 1).trans rfl
 have cw2 := (blk_cell HW.out.wd 2).trans rfl
 have cw3 := (blk_cell HW.out.wd 3).trans rfl
 have cw4 := (blk_cell HW.out.wd 4).trans rfl
 have cw5 := (blk_cell HW.out.wd 5).trans rfl
 go_wp2_with fail
 refine (han _ _ HB.out B3.out).mono ?_
 rintro e w6 ⟨rfl, hb⟩
 go_wp2_with fail
 go_ret
 exact ⟨rfl, below_step HX.out hb⟩
def NodesOk (m : Mp) (ns : List S35) : Prop := ∀ s k, m.nodes s = some k → 0 ≤ k ∧ k < ns.length
def argOk (m : Mp) (fs : ByteArray → Option Int) (ns : List S35) (c : ByteArray) : Bool :=
 (fs c).isSome || (match m.nodes c with | none => false | some h => decide (((rd_T35 ns h).f1.length : Int) ≤ 0))
def callB (m : Mp) (fs : ByteArray → Option Int) (ns : List S35) (e : S42) (outs : Int) : Bool :=
 if (fs e.f1).isSome = true then ((e.f3.length : Int) == 0) else
 match m.nodes e.f1 with
 | none => false
 | some k => (((rd_T35 ns k).f2.length : Int) == (e.f4.length : Int)) && ((((rd_T35 ns k).f1.length : Int) == (e.f3.length : Int)) && ((((rd_T35 ns k).f3.length : Int) == outs) && e.f3.all (argOk m fs ns)))
theorem callB_eq (m : Mp) (fs : ByteArray → Option Int) (ns : List S35) (e : S42) (outs : Int) : callB m fs ns e outs = (if (fs e.f1).isSome = true then ((e.f3.length : Int) == 0) else
 match m.nodes e.f1 with
 | none => false
 | some k => (((rd_T35 ns k).f2.length : Int) == (e.f4.length : Int)) && ((((rd_T35 ns k).f1.length : Int) == (e.f3.length : Int)) && ((((rd_T35 ns k).f3.length : Int) == outs) && e.f3.all (argOk m fs ns)))) := rfl
theorem call1_eg : ∀ args w, (callFunc 105 args).run Tryz.prog w = .ok (.enter 105 args) w := enters_of Tryz.func105 (by kernel_rfl) rfl
def OnesOk (fs : ByteArray → Option Int) : Prop := ∀ s k, fs s = some k → k = 1
set_option maxHeartbeats 8000000 in
theorem call1_calls (ns : List S35) (An Ae : Option Addr) (ne ce cn : Nat) (w0 w : World) (hn : k35.C w0 An ns.length ns) (hw : Below w0.heap.size w0 w) (base : Nat) (B : Bk) (I : Ik) (m : Mp) (n0 n1 n2 n3 n4 : Value) (vs fs : ByteArray → Option Int) (h : IAt base w B I (.slice Ae ne ce) (.slice An ns.length cn) m n0 n1 n2 n3 n4 vs fs) (hok : NodesOk m ns) (hon : OnesOk fs) (gb : Nat) (hb : w.heap[gb]? = some (.cells #[.pointer (some ⟨I.inn, 0, none⟩)] 78 (0, 0))) (s : ByteArray) :
   Calls Tryz.prog 105 #[.string s, .pointer (some ⟨gb, 0, none⟩)] w fun e w' => e = .returned (.bool (!argOk m fs ns s)) ∧ Below w.heap.size w w' := by
 have HI := Aside0.mk h; have HN := Aside0.mk hn; have HB := Aside0.mk hw
 have hm1 := Tryz.underlying58
 have hk := Tryz.underlying9
 have hz : ∀ W, (zeroValue 3).run Tryz.prog W = .ok (.int .i64 0) W := fun W => by kernel_rfl
 have hu := Tryz.underlying60
 have hu2 := Tryz.underlying83
 have hu3 := Tryz.underlying25
 have hu4 := Tryz.underlying35
 have cb := (blk_cell hb 0).trans rfl
 have cw0 := (blk_cell h.wat.wd 0).trans rfl
 have cw1 := (blk_cell h.wat.wd 1).trans rfl
 have cw2 := (blk_cell h.wat.wd 2).trans rfl
 have cw3 := (blk_cell h.wat.wd 3).trans rfl
 have cw4 := (blk_cell h.wat.wd 4).trans rfl
 have cw5 := (blk_cell h.wat.wd 5).trans rfl
 have ci0 := (blk_cell h.inn 0).trans rfl
 have ci1 := (blk_cell h.inn 1).trans rfl
 have ci2 := (blk_cell h.inn 2).trans rfl
 have ci3 := (blk_cell h.inn 3).trans rfl
 have ci4 := (blk_cell h.inn 4).trans rfl
 have ci5 := (blk_cell h.inn 5).trans rfl
 have ci6 := (blk_cell h.inn 6).trans rfl
 have ci7 := (blk_cell h.inn 7).trans rfl
 clear hb
 have HA := Aside0.mk (show argOk m fs ns s = ((fs s).isSome || (match m.nodes s with | none => false | some h => decide (((rd_T35 ns h).f1.length : Int) ≤ 0))) from rfl)
 cases hf : fs s with
 | some v =>
   have hv := hon s v hf
   subst hv
   obtain ⟨cc, hcc⟩ := getI m.nodes s
   have HNV := Aside0.mk hcc; have HNQ := Aside0.mk (menc_isSome encI m.nodes s)
   generalize hqq : (m.nodes s).isSome = qq at HNQ
   have HFV := Aside0.mk (show (menc encI fs s).getD (.int .i64 0) = .int .i64 1 by unfold menc; rw [hf]; rfl)
   have HA2 := Aside0.mk (show argOk m fs ns s = true by rw [HA.out, hf]; rfl)
   clear hf hcc hqq h hok hon hn hw
   go_enter Tryz.func105, Tryz.ntmps105
   go_wp2_with (first | (at_lookup; refine look_str_ok rfl _ _ 58 rfl 9 3 hm1 hk _ (hz _) B.nodes _ rfl HI.out.wat.nodes s rfl (.int .i64 cc) qq HNV.out HNQ.out ?_) | (at_lookup; refine look_str rfl _ _ 58 rfl 9 3 hm1 hk _ (hz _) I.funs _ rfl HI.out.funs s rfl (.int .i64 1) HFV.out ?_))
   go_ret
   exact ⟨by rw [HA2.out]; rfl, Below.refl _ _⟩
 | none =>
 have HFV := Aside0.mk (show (menc encI fs s).getD (.int .i64 0) = .int .i64 0 by unfold menc; rw [hf]; rfl)
 cases hk2 : m.nodes s with
 | none =>
   have HNV := Aside0.mk (show (menc encI m.nodes s).getD (.int .i64 0) = .int .i64 0 by unfold menc; rw [hk2]; rfl)
   have HNQ := Aside0.mk (show (menc encI m.nodes s).isSome = false by rw [menc_isSome, hk2]; rfl)
   have HA2 := Aside0.mk (show argOk m fs ns s = false by rw [HA.out, hf, hk2]; rfl)
   clear hf hk2 h hok hon hn hw
   go_enter Tryz.func105, Tryz.ntmps105
   go_wp2_with (first | (at_lookup; refine look_str_ok rfl _ _ 58 rfl 9 3 hm1 hk _ (hz _) B.nodes _ rfl HI.out.wat.nodes s rfl (.int .i64 0) false HNV.out HNQ.out ?_) | (at_lookup; refine look_str rfl _ _ 58 rfl 9 3 hm1 hk _ (hz _) I.funs _ rfl HI.out.funs s rfl (.int .i64 0) HFV.out ?_))
   go_ret
   exact ⟨by rw [HA2.out]; rfl, Below.refl _ _⟩
 | some k =>
 have hkb := hok s k hk2
 have HNV := Aside0.mk (show (menc encI m.nodes s).getD (.int .i64 0) = .int .i64 k by unfold menc; rw [hk2]; rfl)
 have HNQ := Aside0.mk (show (menc encI m.nodes s).isSome = true by rw [menc_isSome, hk2]; rfl)
 have HA2 := Aside0.mk (show argOk m fs ns s = decide (((rd_T35 ns k).f1.length : Int) ≤ 0) by rw [HA.out, hf, hk2]; rfl)
 obtain ⟨hk0, hk1⟩ := hkb
 obtain ⟨ad, a1, d1, a2, d2, a3, d3, a4, d4, rfl, hx0, hx1, hx2, hx3, hx4, _⟩ := at_T35 hn k hk0 hk1
 replace hx1 := (hw.cell (World.block_lt_of_cell? w0 _ hx1)).trans hx1
 clear hx0 hx2 hx3 hx4 hf hk2 h hok hon hn hw
 have hmx := HN.out.2.1
 generalize hlen : (rd_T35 ns k).f1.length = L at hx1 HA2
 clear hlen
 have HEQ := Aside0.mk (show (!decide ((L : Int) ≤ 0)) = decide (0 < L) by by_cases c : 0 < L; rw [decide_eq_true c, decide_eq_false (by omega)]; rfl; rw [decide_eq_false c, decide_eq_true (by omega)]; rfl)
 go_enter Tryz.func105, Tryz.ntmps105
 go_wp2_with (first | (at_lookup; refine look_str_ok rfl _ _ 58 rfl 9 3 hm1 hk _ (hz _) B.nodes _ rfl HI.out.wat.nodes s rfl (.int .i64 k) true HNV.out HNQ.out ?_) | (at_lookup; refine look_str rfl _ _ 58 rfl 9 3 hm1 hk _ (hz _) I.funs _ rfl HI.out.funs s rfl (.int .i64 0) HFV.out ?_))
 go_ret
 exact ⟨by rw [HA2.out, HEQ.out]; rfl, Below.refl _ _⟩
theorem call1_any (ns : List S35) (An Ae Ac : Option Addr) (ne ce cn cc : Nat) (cons : List ByteArray) (w0 w : World) (hn : k35.C w0 An ns.length ns) (hc : Kd.string.C w0 Ac cons.length cons) (hw : Below w0.heap.size w0 w) (base : Nat) (B : Bk) (I : Ik) (m : Mp) (n0 n1 n2 n3 n4 : Value) (vs fs : ByteArray → Option Int) (h : IAt base w B I (.slice Ae ne ce) (.slice An ns.length cn) m n0 n1 n2 n3 n4 vs fs) (hok : NodesOk m ns) (hon : OnesOk fs) (gb : Nat) (hb : w.heap[gb]? = some (.cells #[.pointer (some ⟨I.inn, 0, none⟩)] 78 (0, 0))) :
   Calls Tryz.prog 67 #[.slice Ac cons.length cc, .func (.func 105) #[] #[.pointer (some ⟨gb, 0, none⟩)]] w fun e w' => e = .returned (.bool (!cons.all (argOk m fs ns))) ∧ Below w.heap.size w w' := by
 refine (ct_string _ _ call1_eg w0 w Ac cc cons hc (fun i => !argOk m fs ns (cons.getD i (⟨#[]⟩ : ByteArray))) (fun _ W' => Below w.heap.size w W') (fun _ W' => Below w.heap.size w W') (fun _ W' h => below_step hw h) ?_ (Below.refl _ _)).mono ?_
 · intro i W' hi hI
   refine (call1_calls ns An Ae ne ce cn w0 W' hn (below_step hw hI) base B I m n0 n1 n2 n3 n4 vs fs (h.below hI) hok hon gb (below_blk hb hI) _).mono ?_
   rintro e w' ⟨rfl, hb'⟩
   exact ⟨rfl, fun _ => below_step hI hb', fun _ => below_step hI hb'⟩
 · intro e w' h
   obtain ⟨rfl, h2⟩ := CtPost.any (q := fun c => !argOk m fs ns c) (z := (⟨#[]⟩ : ByteArray)) (I := fun W' => Below w.heap.size w W') h
   refine ⟨?_, h2⟩
   congr 2
   rw [Bool.eq_iff_iff]
   simp
set_option maxHeartbeats 16000000 in
theorem scall_calls (ns : List S35) (An Ae : Option Addr) (ne ce cn : Nat) (e : S42) (outs : Int) (csx : List Value) (w0 w : World) (hK : k42.K w0 e csx) (hn : k35.C w0 An ns.length ns) (hw : Below w0.heap.size w0 w) (base : Nat) (B : Bk) (I : Ik) (m : Mp) (n0 n1 n2 n3 n4 : Value) (vs fs : ByteArray → Option Int) (h : IAt base w B I (.slice Ae ne ce) (.slice An ns.length cn) m n0 n1 n2 n3 n4 vs fs) (hok : NodesOk m ns) (hon : OnesOk fs) :
   Calls Tryz.prog 80 #[.pointer (some ⟨I.inn, 0, none⟩), .agg csx.toArray, .int .i64 outs] w fun e' w' => e' = .returned (.bool (callB m fs ns e outs)) ∧ Below w.heap.size w w' := by
 obtain ⟨A3, c3, A4, c4, rfl, l3, g3, l4, g4⟩ := k42_open hK
 have L3 := Aside0.mk l3; have G3 := Aside0.mk g3; clear l3 g3
 have L4 := Aside0.mk l4; have G4 := Aside0.mk g4; clear l4 g4
 clear hK
 have HX := Aside0.mk (Below.refl w.heap.size w)
 have HB := Aside0.mk hw; have HI := Aside0.mk h; have HN := Aside0.mk hn
 have hm1 := Tryz.underlying58
 have hk := Tryz.underlying9
 have hz : ∀ W, (zeroValue 3).run Tryz.prog W = .ok (.int .i64 0) W := fun W => by kernel_rfl
 have hu := Tryz.underlying60
 have hu2 := Tryz.underlying83
 have hu3 := Tryz.underlying25
 have hu4 := Tryz.underlying35
 have hu5 := Tryz.underlying42
 have hany := fun (W : World) (hB : Below w0.heap.size w0 W) (hI : IAt base W B I (.slice Ae ne ce) (.slice An ns.length cn) m n0 n1 n2 n3 n4 vs fs) (gb : Nat) (hb : W.heap[gb]? = some (.cells #[.pointer (some ⟨I.inn, 0, none⟩)] 78 (0, 0))) => call1_any ns An Ae A3 ne ce cn c3 e.f3 w0 W hn G3.out hB base B I m n0 n1 n2 n3 n4 vs fs hI hok hon gb hb
 have HCB := Aside0.mk (callB_eq m fs ns e outs)
 generalize callB m fs ns e outs = res at HCB ⊢
 generalize e.f3.all (argOk m fs ns) = r at hany HCB
 clear h hn hw
 go_enter Tryz.func80, Tryz.ntmps80
 go_wp2_with (first | ((with_reducible refine gate_dst (N := 3) rfl ?_); refine box_event ?hg (N := 3) ?hd (cs := #[.pointer (some ⟨I.inn, 0, none⟩)]) (t := 78) ?hr ?_; (case hd => rfl); (case hg => rfl); (case hr => first | (go_simp; done) | (go_simp; rfl)); intro g3 hg_ w_ hbox hb; have hb_ := hb; have B3 := Aside0.mk hbox; have LB3 := Aside0.mk ((by rw [hg_]; exact below_size HB.out) : w0.heap.size ≤ g3); replace HB := Aside0.mk (below_step HB.out hb); replace HI := Aside0.mk (HI.out.below hb_); replace HX := Aside0.mk (below_step HX.out hb_); clear hb hb_ hbox hg_) | ((with_reducible refine gate_dst (N := 4) rfl ?_); refine box_event ?hg (N := 4) ?hd (cs := #[.int .i64 e.f0, .string e.f1, .int .i64 e.f2, .slice A3 (e.f3).length c3, .slice A4 (e.f4).length c4]) (t := 42) ?hr ?_; (case hd => rfl); (case hg => rfl); (case hr => first | (go_simp; done) | (go_simp; rfl)); intro g4 hg_ w_ hbox hb; have hb_ := hb; replace B3 := Aside0.mk (below_blk B3.out hb); have B4 := Aside0.mk hbox; have LB4 := Aside0.mk ((by rw [hg_]; exact below_size HB.out) : w0.heap.size ≤ g4); replace HB := Aside0.mk (below_step HB.out hb); replace HI := Aside0.mk (HI.out.below hb_); replace HX := Aside0.mk (below_step HX.out hb_); clear hb hb_ hbox hg_))
 cases hf : fs e.f1 with
 | some v =>
   have hv := hon e.f1 v hf
   subst hv
   have HFV := Aside0.mk (show (menc encI fs e.f1).getD (.int .i64 0) = .int .i64 1 by unfold menc; rw [hf]; rfl)
   have HRES := Aside0.mk (show res = ((e.f3.length : Int) == 0) by rw [HCB.out, hf]; rfl)
   clear hf HCB hany
   have hlk := fun k => (show StrMap (w_.drewN k) I.funs (menc encI fs) from HI.out.funs).look hm1 hk (hz _) e.f1 false
   simp only [Bool.false_eq_true, if_false, HFV.out] at hlk
   have c3_0 := (blk_cell B3.out 0).trans rfl
   have c4_0 := (blk_cell B4.out 0).trans rfl
   have c4_1 := (blk_cell B4.out 1).trans rfl
   have c4_2 := (blk_cell B4.out 2).trans rfl
   have c4_3 := (blk_cell B4.out 3).trans rfl
   have c4_4 := (blk_cell B4.out 4).trans rfl
   have cw0 := (blk_cell HI.out.wat.wd 0).trans rfl
   have cw1 := (blk_cell HI.out.wat.wd 1).trans rfl
   have cw2 := (blk_cell HI.out.wat.wd 2).trans rfl
   have cw3 := (blk_cell HI.out.wat.wd 3).trans rfl
   have cw4 := (blk_cell HI.out.wat.wd 4).trans rfl
   have cw5 := (blk_cell HI.out.wat.wd 5).trans rfl
   have ci0 := (blk_cell HI.out.inn 0).trans rfl
   have ci1 := (blk_cell HI.out.inn 1).trans rfl
   have ci2 := (blk_cell HI.out.inn 2).trans rfl
   have ci3 := (blk_cell HI.out.inn 3).trans rfl
   have ci4 := (blk_cell HI.out.inn 4).trans rfl
   have ci5 := (blk_cell HI.out.inn 5).trans rfl
   have ci6 := (blk_cell HI.out.inn 6).trans rfl
   have ci7 := (blk_cell HI.out.inn 7).trans rfl
   go_quiet (fail)
   clear hlk
   clear c3_0 c4_0 c4_1 c4_2 c4_3 c4_4 cw0 cw1 cw2 cw3 cw4 cw5 ci0 ci1 ci2 ci3 ci4 ci5 ci6 ci7
   have HB_ := Aside0.mk (pw_below_drewN HB.out nq); clear HB
   have HX_ := Aside0.mk (pw_below_drewN HX.out nq); clear HX
   have HI_ := Aside0.mk (IAt.drewN HI.out nq); clear HI
   have B3_ := Aside0.mk (blk_drewN B3.out nq); clear B3
   have B4_ := Aside0.mk (blk_drewN B4.out nq); clear B4
   generalize w_.drewN nq = w8 at HB_ HX_ HI_ B3_ B4_ ⊢
   have HB := HB_; have HX := HX_; have HI := HI_; have B3 := B3_; have B4 := B4_; clear HB_ HX_ HI_ B3_ B4_
   have c3_0 := (blk_cell B3.out 0).trans rfl
   have c4_0 := (blk_cell B4.out 0).trans rfl
   have c4_1 := (blk_cell B4.out 1).trans rfl
   have c4_2 := (blk_cell B4.out 2).trans rfl
   have c4_3 := (blk_cell B4.out 3).trans rfl
   have c4_4 := (blk_cell B4.out 4).trans rfl
   have cw0 := (blk_cell HI.out.wat.wd 0).trans rfl
   have cw1 := (blk_cell HI.out.wat.wd 1).trans rfl
   have cw2 := (blk_cell HI.out.wat.wd 2).trans rfl
   have cw3 := (blk_cell HI.out.wat.wd 3).trans rfl
   have cw4 := (blk_cell HI.out.wat.wd 4).trans rfl
   have cw5 := (blk_cell HI.out.wat.wd 5).trans rfl
   have ci0 := (blk_cell HI.out.inn 0).trans rfl
   have ci1 := (blk_cell HI.out.inn 1).trans rfl
   have ci2 := (blk_cell HI.out.inn 2).trans rfl
   have ci3 := (blk_cell HI.out.inn 3).trans rfl
   have ci4 := (blk_cell HI.out.inn 4).trans rfl
   have ci5 := (blk_cell HI.out.inn 5).trans rfl
   have ci6 := (blk_cell HI.out.inn 6).trans rfl
   have ci7 := (blk_cell HI.out.inn 7).trans rfl
   go_wp2_with fail
   go_ret
   exact ⟨by rw [HRES.out]; rfl, HX.out⟩
 | none =>
 have HFV := Aside0.mk (show (menc encI fs e.f1).getD (.int .i64 0) = .int .i64 0 by unfold menc; rw [hf]; rfl)
 have h := HCB.out
 rw [hf] at h; simp only [Option.isSome_none, Bool.false_eq_true, if_false] at h
 have HCB2 := Aside0.mk h
 clear h
 clear hf HCB
 have hlk := fun k => (show StrMap (w_.drewN k) I.funs (menc encI fs) from HI.out.funs).look hm1 hk (hz _) e.f1 false
 simp only [Bool.false_eq_true, if_false, HFV.out] at hlk
 have c3_0 := (blk_cell B3.out 0).trans rfl
 have c4_0 := (blk_cell B4.out 0).trans rfl
 have c4_1 := (blk_cell B4.out 1).trans rfl
 have c4_2 := (blk_cell B4.out 2).trans rfl
 have c4_3 := (blk_cell B4.out 3).trans rfl
 have c4_4 := (blk_cell B4.out 4).trans rfl
 have cw0 := (blk_cell HI.out.wat.wd 0).trans rfl
 have cw1 := (blk_cell HI.out.wat.wd 1).trans rfl
 have cw2 := (blk_cell HI.out.wat.wd 2).trans rfl
 have cw3 := (blk_cell HI.out.wat.wd 3).trans rfl
 have cw4 := (blk_cell HI.out.wat.wd 4).trans rfl
 have cw5 := (blk_cell HI.out.wat.wd 5).trans rfl
 have ci0 := (blk_cell HI.out.inn 0).trans rfl
 have ci1 := (blk_cell HI.out.inn 1).trans rfl
 have ci2 := (blk_cell HI.out.inn 2).trans rfl
 have ci3 := (blk_cell HI.out.inn 3).trans rfl
 have ci4 := (blk_cell HI.out.inn 4).trans rfl
 have ci5 := (blk_cell HI.out.inn 5).trans rfl
 have ci6 := (blk_cell HI.out.inn 6).trans rfl
 have ci7 := (blk_cell HI.out.inn 7).trans rfl
 go_quiet (fail)
 clear hlk
 clear c3_0 c4_0 c4_1 c4_2 c4_3 c4_4 cw0 cw1 cw2 cw3 cw4 cw5 ci0 ci1 ci2 ci3 ci4 ci5 ci6 ci7
 have HB_ := Aside0.mk (pw_below_drewN HB.out nq); clear HB
 have HX_ := Aside0.mk (pw_below_drewN HX.out nq); clear HX
 have HI_ := Aside0.mk (IAt.drewN HI.out nq); clear HI
 have B3_ := Aside0.mk (blk_drewN B3.out nq); clear B3
 have B4_ := Aside0.mk (blk_drewN B4.out nq); clear B4
 generalize w_.drewN nq = w8 at HB_ HX_ HI_ B3_ B4_ ⊢
 have HB := HB_; have HX := HX_; have HI := HI_; have B3 := B3_; have B4 := B4_; clear HB_ HX_ HI_ B3_ B4_
 have c3_0 := (blk_cell B3.out 0).trans rfl
 have c4_0 := (blk_cell B4.out 0).trans rfl
 have c4_1 := (blk_cell B4.out 1).trans rfl
 have c4_2 := (blk_cell B4.out 2).trans rfl
 have c4_3 := (blk_cell B4.out 3).trans rfl
 have c4_4 := (blk_cell B4.out 4).trans rfl
 have cw0 := (blk_cell HI.out.wat.wd 0).trans rfl
 have cw1 := (blk_cell HI.out.wat.wd 1).trans rfl
 have cw2 := (blk_cell HI.out.wat.wd 2).trans rfl
 have cw3 := (blk_cell HI.out.wat.wd 3).trans rfl
 have cw4 := (blk_cell HI.out.wat.wd 4).trans rfl
 have cw5 := (blk_cell HI.out.wat.wd 5).trans rfl
 have ci0 := (blk_cell HI.out.inn 0).trans rfl
 have ci1 := (blk_cell HI.out.inn 1).trans rfl
 have ci2 := (blk_cell HI.out.inn 2).trans rfl
 have ci3 := (blk_cell HI.out.inn 3).trans rfl
 have ci4 := (blk_cell HI.out.inn 4).trans rfl
 have ci5 := (blk_cell HI.out.inn 5).trans rfl
 have ci6 := (blk_cell HI.out.inn 6).trans rfl
 have ci7 := (blk_cell HI.out.inn 7).trans rfl
 go_wp2_with fail
 clear c3_0 c4_0 c4_1 c4_2 c4_3 c4_4 cw0 cw1 cw2 cw3 cw4 cw5 ci0 ci1 ci2 ci3 ci4 ci5 ci6 ci7
 cases hk2 : m.nodes e.f1 with
 | none =>
   have HNV := Aside0.mk (show (menc encI m.nodes e.f1).getD (.int .i64 0) = .int .i64 0 by unfold menc; rw [hk2]; rfl)
   have HNQ := Aside0.mk (show (menc encI m.nodes e.f1).isSome = false by rw [menc_isSome, hk2]; rfl)
   have HRES := Aside0.mk (show res = false by rw [HCB2.out, hk2])
   clear hk2 HCB2 hany
   have hlk := fun k => (show StrMap (w8.drewN k) B.nodes (menc encI m.nodes) from HI.out.wat.nodes).look hm1 hk (hz _) e.f1 true
   simp only [if_true, HNV.out, HNQ.out] at hlk
   have c3_0 := (blk_cell B3.out 0).trans rfl
   have c4_0 := (blk_cell B4.out 0).trans rfl
   have c4_1 := (blk_cell B4.out 1).trans rfl
   have c4_2 := (blk_cell B4.out 2).trans rfl
   have c4_3 := (blk_cell B4.out 3).trans rfl
   have c4_4 := (blk_cell B4.out 4).trans rfl
   have cw0 := (blk_cell HI.out.wat.wd 0).trans rfl
   have cw1 := (blk_cell HI.out.wat.wd 1).trans rfl
   have cw2 := (blk_cell HI.out.wat.wd 2).trans rfl
   have cw3 := (blk_cell HI.out.wat.wd 3).trans rfl
   have cw4 := (blk_cell HI.out.wat.wd 4).trans rfl
   have cw5 := (blk_cell HI.out.wat.wd 5).trans rfl
   have ci0 := (blk_cell HI.out.inn 0).trans rfl
   have ci1 := (blk_cell HI.out.inn 1).trans rfl
   have ci2 := (blk_cell HI.out.inn 2).trans rfl
   have ci3 := (blk_cell HI.out.inn 3).trans rfl
   have ci4 := (blk_cell HI.out.inn 4).trans rfl
   have ci5 := (blk_cell HI.out.inn 5).trans rfl
   have ci6 := (blk_cell HI.out.inn 6).trans rfl
   have ci7 := (blk_cell HI.out.inn 7).trans rfl
   go_quiet (fail)
   clear hlk
   clear c3_0 c4_0 c4_1 c4_2 c4_3 c4_4 cw0 cw1 cw2 cw3 cw4 cw5 ci0 ci1 ci2 ci3 ci4 ci5 ci6 ci7
   have HB_ := Aside0.mk (pw_below_drewN HB.out nq); clear HB
   have HX_ := Aside0.mk (pw_below_drewN HX.out nq); clear HX
   have HI_ := Aside0.mk (IAt.drewN HI.out nq); clear HI
   have B3_ := Aside0.mk (blk_drewN B3.out nq); clear B3
   have B4_ := Aside0.mk (blk_drewN B4.out nq); clear B4
   generalize w8.drewN nq = w9 at HB_ HX_ HI_ B3_ B4_ ⊢
   have HB := HB_; have HX := HX_; have HI := HI_; have B3 := B3_; have B4 := B4_; clear HB_ HX_ HI_ B3_ B4_
   have c3_0 := (blk_cell B3.out 0).trans rfl
   have c4_0 := (blk_cell B4.out 0).trans rfl
   have c4_1 := (blk_cell B4.out 1).trans rfl
   have c4_2 := (blk_cell B4.out 2).trans rfl
   have c4_3 := (blk_cell B4.out 3).trans rfl
   have c4_4 := (blk_cell B4.out 4).trans rfl
   have cw0 := (blk_cell HI.out.wat.wd 0).trans rfl
   have cw1 := (blk_cell HI.out.wat.wd 1).trans rfl
   have cw2 := (blk_cell HI.out.wat.wd 2).trans rfl
   have cw3 := (blk_cell HI.out.wat.wd 3).trans rfl
   have cw4 := (blk_cell HI.out.wat.wd 4).trans rfl
   have cw5 := (blk_cell HI.out.wat.wd 5).trans rfl
   have ci0 := (blk_cell HI.out.inn 0).trans rfl
   have ci1 := (blk_cell HI.out.inn 1).trans rfl
   have ci2 := (blk_cell HI.out.inn 2).trans rfl
   have ci3 := (blk_cell HI.out.inn 3).trans rfl
   have ci4 := (blk_cell HI.out.inn 4).trans rfl
   have ci5 := (blk_cell HI.out.inn 5).trans rfl
   have ci6 := (blk_cell HI.out.inn 6).trans rfl
   have ci7 := (blk_cell HI.out.inn 7).trans rfl
   go_wp2_with fail
   go_ret
   exact ⟨by rw [HRES.out]; rfl, HX.out⟩
 | some k =>
 have hkb := hok e.f1 k hk2
 have HNV := Aside0.mk (show (menc encI m.nodes e.f1).getD (.int .i64 0) = .int .i64 k by unfold menc; rw [hk2]; rfl)
 have HNQ := Aside0.mk (show (menc encI m.nodes e.f1).isSome = true by rw [menc_isSome, hk2]; rfl)
 have HCB := Aside0.mk (show res = ((((rd_T35 ns k).f2.length : Int) == (e.f4.length : Int)) && ((((rd_T35 ns k).f1.length : Int) == (e.f3.length : Int)) && ((((rd_T35 ns k).f3.length : Int) == outs) && r))) by have h := HCB2.out; rw [hk2] at h; exact h)
 clear hk2 HCB2
 obtain ⟨hk0, hk1⟩ := hkb
 have hlk := fun k => (show StrMap (w8.drewN k) B.nodes (menc encI m.nodes) from HI.out.wat.nodes).look hm1 hk (hz _) e.f1 true
 simp only [if_true, HNV.out, HNQ.out] at hlk
 have c3_0 := (blk_cell B3.out 0).trans rfl
 have c4_0 := (blk_cell B4.out 0).trans rfl
 have c4_1 := (blk_cell B4.out 1).trans rfl
 have c4_2 := (blk_cell B4.out 2).trans rfl
 have c4_3 := (blk_cell B4.out 3).trans rfl
 have c4_4 := (blk_cell B4.out 4).trans rfl
 have cw0 := (blk_cell HI.out.wat.wd 0).trans rfl
 have cw1 := (blk_cell HI.out.wat.wd 1).trans rfl
 have cw2 := (blk_cell HI.out.wat.wd 2).trans rfl
 have cw3 := (blk_cell HI.out.wat.wd 3).trans rfl
 have cw4 := (blk_cell HI.out.wat.wd 4).trans rfl
 have cw5 := (blk_cell HI.out.wat.wd 5).trans rfl
 have ci0 := (blk_cell HI.out.inn 0).trans rfl
 have ci1 := (blk_cell HI.out.inn 1).trans rfl
 have ci2 := (blk_cell HI.out.inn 2).trans rfl
 have ci3 := (blk_cell HI.out.inn 3).trans rfl
 have ci4 := (blk_cell HI.out.inn 4).trans rfl
 have ci5 := (blk_cell HI.out.inn 5).trans rfl
 have ci6 := (blk_cell HI.out.inn 6).trans rfl
 have ci7 := (blk_cell HI.out.inn 7).trans rfl
 go_quiet (fail)
 clear hlk
 clear c3_0 c4_0 c4_1 c4_2 c4_3 c4_4 cw0 cw1 cw2 cw3 cw4 cw5 ci0 ci1 ci2 ci3 ci4 ci5 ci6 ci7
 have HB_ := Aside0.mk (pw_below_drewN HB.out nq); clear HB
 have HX_ := Aside0.mk (pw_below_drewN HX.out nq); clear HX
 have HI_ := Aside0.mk (IAt.drewN HI.out nq); clear HI
 have B3_ := Aside0.mk (blk_drewN B3.out nq); clear B3
 have B4_ := Aside0.mk (blk_drewN B4.out nq); clear B4
 generalize w8.drewN nq = w9 at HB_ HX_ HI_ B3_ B4_ ⊢
 have HB := HB_; have HX := HX_; have HI := HI_; have B3 := B3_; have B4 := B4_; clear HB_ HX_ HI_ B3_ B4_
 have c3_0 := (blk_cell B3.out 0).trans rfl
 have c4_0 := (blk_cell B4.out 0).trans rfl
 have c4_1 := (blk_cell B4.out 1).trans rfl
 have c4_2 := (blk_cell B4.out 2).trans rfl
 have c4_3 := (blk_cell B4.out 3).trans rfl
 have c4_4 := (blk_cell B4.out 4).trans rfl
 have cw0 := (blk_cell HI.out.wat.wd 0).trans rfl
 have cw1 := (blk_cell HI.out.wat.wd 1).trans rfl
 have cw2 := (blk_cell HI.out.wat.wd 2).trans rfl
 have cw3 := (blk_cell HI.out.wat.wd 3).trans rfl
 have cw4 := (blk_cell HI.out.wat.wd 4).trans rfl
 have cw5 := (blk_cell HI.out.wat.wd 5).trans rfl
 have ci0 := (blk_cell HI.out.inn 0).trans rfl
 have ci1 := (blk_cell HI.out.inn 1).trans rfl
 have ci2 := (blk_cell HI.out.inn 2).trans rfl
 have ci3 := (blk_cell HI.out.inn 3).trans rfl
 have ci4 := (blk_cell HI.out.inn 4).trans rfl
 have ci5 := (blk_cell HI.out.inn 5).trans rfl
 have ci6 := (blk_cell HI.out.inn 6).trans rfl
 have ci7 := (blk_cell HI.out.inn 7).trans rfl
 obtain ⟨ad, a1, d1, a2, d2, a3, d3, a4, d4, rfl, hx0, hx1, hx2, hx3, hx4, _⟩ := at_T35 HN.out k hk0 hk1
 replace hx0 := (HB.out.cell (World.block_lt_of_cell? w0 _ hx0)).trans hx0
 replace hx1 := (HB.out.cell (World.block_lt_of_cell? w0 _ hx1)).trans hx1
 replace hx2 := (HB.out.cell (World.block_lt_of_cell? w0 _ hx2)).trans hx2
 replace hx3 := (HB.out.cell (World.block_lt_of_cell? w0 _ hx3)).trans hx3
 replace hx4 := (HB.out.cell (World.block_lt_of_cell? w0 _ hx4)).trans hx4
 have hmx := HN.out.2.1
 generalize rd_T35 ns k = y at hx0 hx1 hx2 hx3 hx4 HCB
 cases q1 : ((y.f2.length : Int) == (e.f4.length : Int)) with
 | false =>
   have q1' : ((y.f2.length : Int) != (e.f4.length : Int)) = true := by rw [bne, q1]; rfl
   have q1N : (y.f2.length != e.f4.length) = true := by rw [bne_iff_ne]; intro h; rw [h] at q1; simp at q1
   have HRES := Aside0.mk (show res = false by rw [HCB.out, q1]; rfl)
   clear q1
   go_wp2_with ((with_reducible refine gate_store (t := 35) (p := 9) rfl ?_); refine store_whole rfl rfl 35 _ _ rfl w9.heap.size _ 35 rfl (blk_new _ _) _ rfl rfl rfl (by simp [Value.oneCell']) ?_; intro w2 hb2 hg2; replace B3 := Aside0.mk (blk_as B3.out hg2); replace B4 := Aside0.mk (blk_as B4.out hg2); replace HB := Aside0.mk (below_as HB.out hg2); replace HX := Aside0.mk (below_as HX.out hg2); replace HI := Aside0.mk (HI.out.as hg2); obtain ⟨ge, hq_⟩ : ∃ g_, g_ = w9.heap.size := ⟨_, rfl⟩; rw [← hq_] at hb2; rw [← hq_]; have BE := Aside0.mk hb2; clear hb2 hg2 hq_; have ce_0 := (blk_cell BE.out 0).trans rfl; have ce_1 := (blk_cell BE.out 1).trans rfl; have ce_2 := (blk_cell BE.out 2).trans rfl; have ce_3 := (blk_cell BE.out 3).trans rfl; have ce_4 := (blk_cell BE.out 4).trans rfl; have d4_0 := (blk_cell B4.out 0).trans rfl; have d4_3 := (blk_cell B4.out 3).trans rfl; have d4_4 := (blk_cell B4.out 4).trans rfl)
   go_ret
   exact ⟨by rw [HRES.out]; rfl, HX.out⟩
 | true =>
 have q1' : ((y.f2.length : Int) != (e.f4.length : Int)) = false := by rw [bne, q1]; rfl
 have q1N : (y.f2.length != e.f4.length) = false := by have := beq_iff_eq.1 q1; simp; omega
 rw [q1, Bool.true_and] at HCB
 clear q1
 cases q2 : ((y.f1.length : Int) == (e.f3.length : Int)) with
 | false =>
   have q2' : ((y.f1.length : Int) != (e.f3.length : Int)) = true := by rw [bne, q2]; rfl
   have q2N : (y.f1.length != e.f3.length) = true := by rw [bne_iff_ne]; intro h; rw [h] at q2; simp at q2
   have HRES := Aside0.mk (show res = false by rw [HCB.out, q2]; rfl)
   clear q2
   go_wp2_with ((with_reducible refine gate_store (t := 35) (p := 9) rfl ?_); refine store_whole rfl rfl 35 _ _ rfl w9.heap.size _ 35 rfl (blk_new _ _) _ rfl rfl rfl (by simp [Value.oneCell']) ?_; intro w2 hb2 hg2; replace B3 := Aside0.mk (blk_as B3.out hg2); replace B4 := Aside0.mk (blk_as B4.out hg2); replace HB := Aside0.mk (below_as HB.out hg2); replace HX := Aside0.mk (below_as HX.out hg2); replace HI := Aside0.mk (HI.out.as hg2); obtain ⟨ge, hq_⟩ : ∃ g_, g_ = w9.heap.size := ⟨_, rfl⟩; rw [← hq_] at hb2; rw [← hq_]; have BE := Aside0.mk hb2; clear hb2 hg2 hq_; have ce_0 := (blk_cell BE.out 0).trans rfl; have ce_1 := (blk_cell BE.out 1).trans rfl; have ce_2 := (blk_cell BE.out 2).trans rfl; have ce_3 := (blk_cell BE.out 3).trans rfl; have ce_4 := (blk_cell BE.out 4).trans rfl; have d4_0 := (blk_cell B4.out 0).trans rfl; have d4_3 := (blk_cell B4.out 3).trans rfl; have d4_4 := (blk_cell B4.out 4).trans rfl)
   go_ret
   exact ⟨by rw [HRES.out]; rfl, HX.out⟩
 | true =>
 have q2' : ((y.f1.length : Int) != (e.f3.length : Int)) = false := by rw [bne, q2]; rfl
 have q2N : (y.f1.length != e.f3.length) = false := by have := beq_iff_eq.1 q2; simp; omega
 rw [q2, Bool.true_and] at HCB
 clear q2
 cases q3 : ((y.f3.length : Int) == outs) with
 | false =>
   have q3' : ((y.f3.length : Int) != outs) = true := by rw [bne, q3]; rfl
   have HRES := Aside0.mk (show res = false by rw [HCB.out, q3]; rfl)
   clear q3
   go_wp2_with ((with_reducible refine gate_store (t := 35) (p := 9) rfl ?_); refine store_whole rfl rfl 35 _ _ rfl w9.heap.size _ 35 rfl (blk_new _ _) _ rfl rfl rfl (by simp [Value.oneCell']) ?_; intro w2 hb2 hg2; replace B3 := Aside0.mk (blk_as B3.out hg2); replace B4 := Aside0.mk (blk_as B4.out hg2); replace HB := Aside0.mk (below_as HB.out hg2); replace HX := Aside0.mk (below_as HX.out hg2); replace HI := Aside0.mk (HI.out.as hg2); obtain ⟨ge, hq_⟩ : ∃ g_, g_ = w9.heap.size := ⟨_, rfl⟩; rw [← hq_] at hb2; rw [← hq_]; have BE := Aside0.mk hb2; clear hb2 hg2 hq_; have ce_0 := (blk_cell BE.out 0).trans rfl; have ce_1 := (blk_cell BE.out 1).trans rfl; have ce_2 := (blk_cell BE.out 2).trans rfl; have ce_3 := (blk_cell BE.out 3).trans rfl; have ce_4 := (blk_cell BE.out 4).trans rfl; have d4_0 := (blk_cell B4.out 0).trans rfl; have d4_3 := (blk_cell B4.out 3).trans rfl; have d4_4 := (blk_cell B4.out 4).trans rfl)
   go_ret
   exact ⟨by rw [HRES.out]; rfl, HX.out⟩
 | true =>
 have q3' : ((y.f3.length : Int) != outs) = false := by rw [bne, q3]; rfl
 rw [q3, Bool.true_and] at HCB
 clear q3
 go_wp2_with ((with_reducible refine gate_store (t := 35) (p := 9) rfl ?_); refine store_whole rfl rfl 35 _ _ rfl w9.heap.size _ 35 rfl (blk_new _ _) _ rfl rfl rfl (by simp [Value.oneCell']) ?_; intro w2 hb2 hg2; replace B3 := Aside0.mk (blk_as B3.out hg2); replace B4 := Aside0.mk (blk_as B4.out hg2); replace HB := Aside0.mk (below_as HB.out hg2); replace HX := Aside0.mk (below_as HX.out hg2); replace HI := Aside0.mk (HI.out.as hg2); obtain ⟨ge, hq_⟩ : ∃ g_, g_ = w9.heap.size := ⟨_, rfl⟩; rw [← hq_] at hb2; rw [← hq_]; have BE := Aside0.mk hb2; clear hb2 hg2 hq_; have ce_0 := (blk_cell BE.out 0).trans rfl; have ce_1 := (blk_cell BE.out 1).trans rfl; have ce_2 := (blk_cell BE.out 2).trans rfl; have ce_3 := (blk_cell BE.out 3).trans rfl; have ce_4 := (blk_cell BE.out 4).trans rfl; have d4_0 := (blk_cell B4.out 0).trans rfl; have d4_3 := (blk_cell B4.out 3).trans rfl; have d4_4 := (blk_cell B4.out 4).trans rfl)
 refine (hany _ HB.out (by exact HI.out) _ B3.out).mono ?_
 rintro e' w7 ⟨rfl, hb⟩
 have HX7 := Aside0.mk (below_step HX.out hb); clear hb
 go_wp2_with fail
 go_ret
 exact ⟨by rw [HCB.out]; cases r <;> rfl, HX7.out⟩
end Go.Proofs.YtggfnbnochmkdaaGreat
