/- JOINED of 5 texts: Package scope: the names that an item defines. Package scope: whether a state is well beside the first one. slices.Grow of nothing; slices.Concat of two lists of texts. Package scope: a node's variables. A program that came in: its enums, its nodes, and how much they hold. -/
import Derived.Test.YtggfnbnochmkdaaGreatSa
import Derived.Lib.AppendZerosOnto
import Derived.Lib.SliceRun
import Derived.Deep.Slices
import Derived.ChangeArms
import Derived.Test.YtggfnbnochmkdaaGreatRows
namespace Go.Proofs.YtggfnbnochmkdaaGreat
open Go Go.RowKit Go.Lib Go.Proofs.YtggfnbnochmkdaaGreatW.PrintWords Go.Proofs.YtggfnbnochmkdaaGreat.PScope
set_option maxRecDepth 100000
set_option linter.unusedSimpArgs false
set_option linter.unusedVariables false
def definesL (x : S47) : List ByteArray := if x.f1.length = 0 then x.f0.f0 else (x.f1.getD 0 z65).f1.flatMap (fun q => q.f0)
theorem R_as {α : Type} {d : Kd α} {e : Nat} {W w2 : World} {base : Nat} {ok : Nat → Prop} {v : Value} {xs : List α} {o' : Obj} (h : d.R e W base ok v xs) (hg : (W.alloc o').grownBy w2 (some W.heap.size)) : d.R e w2 base ok v xs :=
 Kd.R_step h (fun k _ hk => (hg.block k (by simp; omega) (by intro e; injection e with e; omega)).trans (Below.heap_alloc W o' k hk))
theorem flatMap_take {α β : Type} (l : List α) (f : α → List β) (z : α) (k : Nat) (h : k < l.length) : (l.take (k + 1)).flatMap f = (l.take k).flatMap f ++ f (l.getD k z) := by
 rw [List.take_succ_eq_append_getElem h, List.flatMap_append, List.getD_eq_getElem?_getD, List.getElem?_eq_getElem h]; simp
theorem flatMap_take_le {α β : Type} (l : List α) (f : α → List β) (k : Nat) : ((l.take k).flatMap f).length ≤ (l.flatMap f).length := by
 have h : l.flatMap f = (l.take k).flatMap f ++ (l.drop k).flatMap f := by rw [← List.flatMap_append, List.take_append_drop]
 rw [h, List.length_append]; omega
theorem info9 : (Tryz.prog.info? 9).map (fun i => (i.zero, i.size, i.bytes)) = some (some (.string ⟨#[]⟩), 1, 16) := by kernel_rfl
def StrsPost (l : List ByteArray) (w : World) (e : Ending) (w' : World) : Prop :=
 ∃ A c, e = .returned (.slice A l.length c) ∧ l.length ≤ c ∧ Kd.string.C w' A l.length l ∧ Below w.heap.size w w'
set_option maxHeartbeats 8000000 in
theorem defines_calls (x : S47) (w : World) (csx : List Value) (hK : k47.K w x csx) (hlen : (definesL x).length * 16 ≤ 140737488355328) :
   Calls Tryz.prog 23 #[.agg csx.toArray] w (StrsPost (definesL x) w) := by
 obtain ⟨A0, c0, A4, c4, A5, c5, A6, c6, rfl, l0, g0, l4, g4, l5, g5, l6, g6⟩ := k47_open hK
 have L0 := Aside0.mk l0; have G0 := Aside0.mk g0; clear l0 g0
 have L4 := Aside0.mk l4; have G4 := Aside0.mk g4; clear l4 g4
 have L5 := Aside0.mk l5; have G5 := Aside0.mk g5; clear l5 g5
 have L6 := Aside0.mk l6; have G6 := Aside0.mk g6; clear l6 g6
 clear hK
 have HB := Aside0.mk (Below.refl w.heap.size w)
 have hu0 := Tryz.underlying44
 have hu1 := Tryz.underlying65
 have hu2 := Tryz.underlying47
 by_cases e0 : x.f1.length = 0
 · have t0 : ((x.f1.length : Int) == 0) = true := by rw [e0]; rfl
   have HD := Aside0.mk (show definesL x = x.f0.f0 from if_pos e0)
   clear e0 hlen
   go_enter Tryz.func23, Tryz.ntmps23
   go_wp2_with ((with_reducible refine gate_dst (N := 1) rfl ?_); refine box_event ?hg (N := 1) ?hd (cs := #[.slice A0 (x.f0.f0).length c0, .int .i64 x.f0.f1.f0, .string x.f0.f1.f1, .int .i64 x.f0.f1.f2, .slice A4 (x.f0.f1.f3).length c4, .slice A5 (x.f0.f1.f4).length c5, .slice A6 (x.f1).length c6]) (t := 47) ?hr ?_; (case hd => rfl); (case hg => rfl); (case hr => first | (go_simp; done) | (go_simp; rfl)); intro g1 hg_ w_ hbox hb; have B1 := Aside0.mk hbox; have LB1 := Aside0.mk ((by rw [hg_]; exact below_size HB.out) : w.heap.size ≤ g1); replace HB := Aside0.mk (below_step HB.out hb); clear hb hbox hg_; have cg1_0 := (blk_cell B1.out 0).trans rfl; have cg1_1 := (blk_cell B1.out 1).trans rfl; have cg1_2 := (blk_cell B1.out 2).trans rfl; have cg1_3 := (blk_cell B1.out 3).trans rfl; have cg1_4 := (blk_cell B1.out 4).trans rfl; have cg1_5 := (blk_cell B1.out 5).trans rfl; have cg1_6 := (blk_cell B1.out 6).trans rfl)
   go_ret
   rw [HD.out]
   exact ⟨A0, c0, rfl, L0.out, Kd.C_below G0.out HB.out, HB.out⟩
 have t0 : ((x.f1.length : Int) == 0) = false := beq_eq_false_iff_ne.2 (by omega)
 have HD := Aside0.mk (show definesL x = (x.f1.getD 0 z65).f1.flatMap (fun q => q.f0) from if_neg e0)
 rw [HD.out] at hlen
 have hp0 : 0 < x.f1.length := by omega
 have hpz : (0 : Int) < (x.f1.length : Int) := by omega
 obtain ⟨ead, ecs, rfl, _, eK, ecc⟩ := Kd.C_get G6.out z65 ((0 : Nat) : Int) (by omega) (by omega)
 have eK' := eK
 obtain ⟨eA1, ec1, eA2, ec2, rfl, el1, eg1, el2, eg2⟩ := k65_open eK'
 have ex0 := (HB.out.cell (World.block_lt_of_cell? w _ (ecc 0 _ rfl))).trans (ecc 0 _ rfl)
 have ex1 := (HB.out.cell (World.block_lt_of_cell? w _ (ecc 1 _ rfl))).trans (ecc 1 _ rfl)
 have ex2 := (HB.out.cell (World.block_lt_of_cell? w _ (ecc 2 _ rfl))).trans (ecc 2 _ rfl)
 rw [show (k65).sz = 3 from rfl, Nat.add_zero, Int.toNat_natCast] at ex0
 rw [show (k65).sz = 3 from rfl, Int.toNat_natCast, add_field _ _ 1 (by omega)] at ex1
 rw [show (k65).sz = 3 from rfl, Int.toNat_natCast, add_field _ _ 2 (by omega)] at ex2
 clear ecc
 try simp only [Int.toNat_natCast] at ex0 ex1 ex2 eK el1 eg1 el2 eg2
 generalize Ys0 : x.f1.getD 0 z65 = s at HD hlen ex0 ex1 ex2 eK el1 eg1 el2 eg2
 have Ys := Aside0.mk Ys0; clear Ys0
 have eL1 := Aside0.mk el1; have eG1 := Aside0.mk eg1; clear el1 eg1
 have eL2 := Aside0.mk el2; have eG2 := Aside0.mk eg2; clear el2 eg2
 simp only [Nat.zero_mul, add_zero'] at ex0 ex1 ex2
 clear e0
 go_enter Tryz.func23, Tryz.ntmps23
 go_wp2_with ((with_reducible refine gate_dst (N := 1) rfl ?_); refine box_event ?hg (N := 1) ?hd (cs := #[.slice A0 (x.f0.f0).length c0, .int .i64 x.f0.f1.f0, .string x.f0.f1.f1, .int .i64 x.f0.f1.f2, .slice A4 (x.f0.f1.f3).length c4, .slice A5 (x.f0.f1.f4).length c5, .slice (some ead) (x.f1).length c6]) (t := 47) ?hr ?_; (case hd => rfl); (case hg => rfl); (case hr => first | (go_simp; done) | (go_simp; rfl)); intro g1 hg_ w_ hbox hb; have B1 := Aside0.mk hbox; have LB1 := Aside0.mk ((by rw [hg_]; exact below_size HB.out) : w.heap.size ≤ g1); replace HB := Aside0.mk (below_step HB.out hb); clear hb hbox hg_; have cg1_0 := (blk_cell B1.out 0).trans rfl; have cg1_1 := (blk_cell B1.out 1).trans rfl; have cg1_2 := (blk_cell B1.out 2).trans rfl; have cg1_3 := (blk_cell B1.out 3).trans rfl; have cg1_4 := (blk_cell B1.out 4).trans rfl; have cg1_5 := (blk_cell B1.out 5).trans rfl; have cg1_6 := (blk_cell B1.out 6).trans rfl; replace ex1 := (HB.out.cell (World.block_lt_of_cell? w _ ex1)).trans ex1)
 clear cg1_0 cg1_1 cg1_2 cg1_3 cg1_4 cg1_5 cg1_6
 go_loopg [3, 19] s.f1.length (fun gg s3 s19 wr => ∃ (kk : Nat) (v : Value), kk ≤ s.f1.length ∧ s.f1.length - kk ≤ gg ∧ s19 = .int .i64 kk ∧ s3 = v ∧ Aside0 (Below w.heap.size w wr) ∧ Aside0 (Kd.string.R 9 wr w.heap.size (fun _ => True) v ((s.f1.take kk).flatMap (fun q => q.f0))))
 case atStart => exact ⟨0, _, Nat.zero_le _, by omega, rfl, rfl, HB, ⟨Kd.R_nil _ _ _ _ _⟩⟩
 case round =>
   clear HB B1 LB1 ex0 ex1 ex2
   obtain ⟨kk, v, hkk, hg, rfl, rfl, HB, HO⟩ := hrel
   have hmx : s.f1.length ≤ 9223372036854775807 := (eG1.out).2.1
   by_cases hlt : kk < s.f1.length
   · have hltz : (kk : Int) < (s.f1.length : Int) := by omega
     have HFT := flatMap_take s.f1 (fun q => q.f0) z44 kk hlt
     have HLE := flatMap_take_le s.f1 (fun q => q.f0) (kk + 1)
     rw [HFT, List.length_append] at HLE
     obtain ⟨qad, qcs, rfl, _, qK, qcc⟩ := Kd.C_get eG1.out z44 (kk : Int) (by omega) (by omega)
     have qK' := qK
     obtain ⟨qA0, qc0, qA4, qc4, qA5, qc5, rfl, ql0, qg0, ql4, qg4, ql5, qg5⟩ := k44_open qK'
     have qx0 := (HB.out.cell (World.block_lt_of_cell? w _ (qcc 0 _ rfl))).trans (qcc 0 _ rfl)
     have qx1 := (HB.out.cell (World.block_lt_of_cell? w _ (qcc 1 _ rfl))).trans (qcc 1 _ rfl)
     have qx2 := (HB.out.cell (World.block_lt_of_cell? w _ (qcc 2 _ rfl))).trans (qcc 2 _ rfl)
     have qx3 := (HB.out.cell (World.block_lt_of_cell? w _ (qcc 3 _ rfl))).trans (qcc 3 _ rfl)
     have qx4 := (HB.out.cell (World.block_lt_of_cell? w _ (qcc 4 _ rfl))).trans (qcc 4 _ rfl)
     have qx5 := (HB.out.cell (World.block_lt_of_cell? w _ (qcc 5 _ rfl))).trans (qcc 5 _ rfl)
     rw [show (k44).sz = 6 from rfl, Nat.add_zero, Int.toNat_natCast] at qx0
     rw [show (k44).sz = 6 from rfl, Int.toNat_natCast, add_field _ _ 1 (by omega)] at qx1
     rw [show (k44).sz = 6 from rfl, Int.toNat_natCast, add_field _ _ 2 (by omega)] at qx2
     rw [show (k44).sz = 6 from rfl, Int.toNat_natCast, add_field _ _ 3 (by omega)] at qx3
     rw [show (k44).sz = 6 from rfl, Int.toNat_natCast, add_field _ _ 4 (by omega)] at qx4
     rw [show (k44).sz = 6 from rfl, Int.toNat_natCast, add_field _ _ 5 (by omega)] at qx5
     clear qcc
     try simp only [Int.toNat_natCast] at qx0 qx1 qx2 qx3 qx4 qx5 qK ql0 qg0 ql4 qg4 ql5 qg5
     generalize Yq0 : s.f1.getD kk z44 = q at HFT HLE qx0 qx1 qx2 qx3 qx4 qx5 qK ql0 qg0 ql4 qg4 ql5 qg5
     have Yq := Aside0.mk Yq0; clear Yq0
     have qL0 := Aside0.mk ql0; have qG0 := Aside0.mk qg0; clear ql0 qg0
     have qL4 := Aside0.mk ql4; have qG4 := Aside0.mk qg4; clear ql4 qg4
     have qL5 := Aside0.mk ql5; have qG5 := Aside0.mk qg5; clear ql5 qg5
     have HL2 := Aside0.mk (show (((s.f1.take kk).flatMap (fun q => q.f0)).length + q.f0.length) * 16 ≤ 140737488355328 by omega)
     have HFT2 := Aside0.mk HFT
     clear HFT HLE
     obtain ⟨Ao, co, rfl⟩ := Kd.R_slice HO.out
     generalize hpre : (s.f1.take kk).flatMap (fun q => q.f0) = pre at HO HL2 HFT2 ⊢
     have HPRE := Aside0.mk hpre; clear hpre
     go_wp2_with (first | ((with_reducible refine gate_store (t := 44) (p := 5) rfl ?_); refine store_whole rfl rfl 44 _ _ rfl wr.heap.size _ 44 rfl (blk_new _ _) _ rfl rfl rfl (by simp [Value.oneCell']) ?_; intro w2 hb2 hg2; replace HB := Aside0.mk (below_as HB.out hg2); replace HO := Aside0.mk (R_as HO.out hg2); obtain ⟨ge, hq_⟩ : ∃ g_, g_ = wr.heap.size := ⟨_, rfl⟩; rw [← hq_] at hb2; rw [← hq_]; have BE := Aside0.mk hb2; clear hb2 hg2 hq_; have ce_0 := (blk_cell BE.out 0).trans rfl; have ce_1 := (blk_cell BE.out 1).trans rfl; have ce_2 := (blk_cell BE.out 2).trans rfl; have ce_3 := (blk_cell BE.out 3).trans rfl; have ce_4 := (blk_cell BE.out 4).trans rfl; have ce_5 := (blk_cell BE.out 5).trans rfl) | (at_builtin; refine Kd.R_append_rows Kd.string (w0 := w) w.heap.size rfl _ _ 32 9 (.string ⟨#[]⟩) 16 rfl Tryz.underlying32 info9 rfl (by decide) (by omega) (.slice Ao pre.length co) pre q.f0 qA0 q.f0.length qc0 (fun _ => True) (fun _ => False) rfl rfl ?aO ?aR (fun _ _ h => h) (fun _ h => h.elim) ?aF ?aB ?aS ?aL ?_; (case aO => exact HO.out); (case aR => exact Kd.C_below qG0.out HB.out); (case aF => exact (fun _ _ => trivial)); (case aB => exact HB.out); (case aS => exact HB.out.size); (case aL => exact HL2.out); intro v1 w6 ho_ hb_ hg_ hat_; have HO6 := Aside0.mk ho_; have HB6 := Aside0.mk hb_; clear ho_ hb_ hg_ hat_))
     go_roundg (s.f1.length - (kk + 1))
     case measure => omega
     case rel => exact ⟨kk + 1, _, by omega, by omega, by go_num, rfl, HB6, ⟨by rw [HFT2.out]; exact HO6.out⟩⟩
   · have hltz : ¬ (kk : Int) < (s.f1.length : Int) := by omega
     obtain rfl : kk = s.f1.length := by omega
     have ho := HO.out
     rw [List.take_length] at ho
     obtain ⟨Ao, co, rfl, hco, hC⟩ := Kd.R_reads ho
     have HCO := Aside0.mk hco; have HCC := Aside0.mk hC
     clear ho hco hC HO
     generalize hfl : s.f1.flatMap (fun q => q.f0) = fl at HCO HCC ⊢
     have HFL := Aside0.mk hfl; clear hfl hlen
     go_wp2_with fail
     go_ret
     rw [HD.out, HFL.out]
     exact ⟨Ao, co, rfl, HCO.out, HCC.out, HB.out⟩
theorem cell_as {W w2 : World} {a : Addr} {v : Value} {o' : Obj} (h : W.cell? a = some v) (hg : (W.alloc o').grownBy w2 (some W.heap.size)) : w2.cell? a = some v := by
 have hl := World.block_lt_of_cell? W a h
 have := (hg.block a.block (by simp; omega) (by intro e; injection e with e; omega)).trans (Below.heap_alloc W o' a.block hl)
 exact (World.cell?_of_block this).trans h
def nm (q : S44) : ByteArray := q.f0.getD 0 (⟨#[]⟩ : ByteArray)
def sameS (a b : ByteArray) : Bool := decide (a = b)
theorem sameS_eq (a b : ByteArray) : (a.toList == b.toList) = sameS a b := by
 unfold sameS
 by_cases h : a = b
 · rw [decide_eq_true h, h]; simp
 · rw [decide_eq_false h]; exact beq_eq_false_iff_ne.2 (fun e => h (toList_inj e))
def oneOf (fs : List ByteArray) (q : S44) : Bool := ((q.f0.length : Int) == 1) && inB fs (nm q)
def goesTo (sts : List S65) (y : S93) : Bool := sts.any (fun t => sameS t.f0 y.f1)
def stDefB (s : S65) (fs : List ByteArray) (sts : List S65) : Bool := s.f1.all (oneOf fs) && (s.f2.all (goesTo sts) && (((s.f1.length : Int) == (fs.length : Int)) && unlikeB (s.f1.map nm)))
theorem map_take' {α β : Type} (l : List α) (f : α → β) (z : α) (k : Nat) (h : k < l.length) : (l.take (k + 1)).map f = (l.take k).map f ++ [f (l.getD k z)] := by
 rw [List.take_succ_eq_append_getElem h, List.map_append, List.getD_eq_getElem?_getD, List.getElem?_eq_getElem h]; rfl
theorem state1_eg : ∀ args w, (callFunc 78 args).run Tryz.prog w = .ok (.enter 78 args) w := enters_of Tryz.func78 (by kernel_rfl) rfl
theorem state1_calls (x : S65) (y : S93) (yA3 : Option Addr) (yc3 : Nat) (yA4 : Option Addr) (yc4 gb : Nat) (w : World) (csx : List Value) (hK : k65.K w x csx) (hb : w.heap[gb]? = some (.cells #[.int .i64 y.f0.f0, .string y.f0.f1, .int .i64 y.f0.f2, .slice yA3 (y.f0.f3).length yc3, .slice yA4 (y.f0.f4).length yc4, .string y.f1] 93 (0, 0))) :
   Calls Tryz.prog 78 #[.agg csx.toArray, .pointer (some ⟨gb, 0, none⟩)] w fun e w' => e = .returned (.bool (sameS x.f0 y.f1)) ∧ Below w.heap.size w w' := by
 obtain ⟨A1, c1, A2, c2, rfl, l1, g1, l2, g2⟩ := k65_open hK
 have h0 := fun o => (blk_cell (blk_alloc hb o) 5).trans rfl
 have hu := Tryz.underlying65
 have hu2 := Tryz.underlying93
 clear hb hK
 have HS := Aside0.mk (sameS_eq x.f0 y.f1)
 generalize hq : (x.f0.toList == y.f1.toList) = q at HS
 go_enter Tryz.func78, Tryz.ntmps78
 go_wp2_with fail
 go_ret
 exact ⟨by rw [← HS.out]; rfl, below_alloc (Below.refl _ _) _⟩
theorem goes_any (y : S93) (yA3 : Option Addr) (yc3 : Nat) (yA4 : Option Addr) (yc4 gb : Nat) (w0 W : World) (A : Option Addr) (c : Nat) (sts : List S65) (hC : k65.C w0 A sts.length sts) (hB : Below w0.heap.size w0 W) (hb : W.heap[gb]? = some (.cells #[.int .i64 y.f0.f0, .string y.f0.f1, .int .i64 y.f0.f2, .slice yA3 (y.f0.f3).length yc3, .slice yA4 (y.f0.f4).length yc4, .string y.f1] 93 (0, 0))) :
   Calls Tryz.prog 53 #[.slice A sts.length c, .func (.func 78) #[] #[.pointer (some ⟨gb, 0, none⟩)]] W fun e w' => e = .returned (.bool (goesTo sts y)) ∧ Below W.heap.size W w' := by
 refine (ct_State _ _ state1_eg w0 W A c sts hC (fun i => sameS (sts.getD i z65).f0 y.f1) (fun _ W' => Below W.heap.size W W') (fun _ W' => Below W.heap.size W W') (fun _ W' h => below_step hB h) ?_ (Below.refl _ _)).mono ?_
 · intro i W' ds hi hI hKd
   refine (state1_calls _ y yA3 yc3 yA4 yc4 gb W' ds (Kd.K_below _ (below_step hB hI) hKd) (below_blk hb hI)).mono ?_
   rintro e w' ⟨rfl, hb'⟩
   exact ⟨rfl, fun _ => below_step hI hb', fun _ => below_step hI hb'⟩
 · intro e w' h
   exact CtPost.any (q := fun t : S65 => sameS t.f0 y.f1) (z := z65) (I := fun W' => Below W.heap.size W W') h
set_option maxHeartbeats 16000000 in
theorem sstate_calls (s : S65) (fs : List ByteArray) (sts : List S65) (w : World) (csx : List Value) (hK : k65.K w s csx) (Af : Option Addr) (cf : Nat) (hf : Kd.string.C w Af fs.length fs) (hfc : fs.length ≤ cf) (As : Option Addr) (cs : Nat) (hs : k65.C w As sts.length sts) (hl : s.f1.length ≤ 24) :
   Calls Tryz.prog 55 #[.agg csx.toArray, .slice Af fs.length cf, .slice As sts.length cs] w fun e w' => e = .returned (.bool (stDefB s fs sts)) ∧ Below w.heap.size w w' := by
 obtain ⟨A1, c1, A2, c2, rfl, l1, g1, l2, g2⟩ := k65_open hK
 have L1 := Aside0.mk l1; have G1 := Aside0.mk g1; clear l1 g1
 have L2 := Aside0.mk l2; have G2 := Aside0.mk g2; clear l2 g2
 clear hK
 have HFS := Aside0.mk hf; have HFC := Aside0.mk hfc; have HST := Aside0.mk hs; clear hf hfc hs
 have HB := Aside0.mk (Below.refl w.heap.size w)
 have hu0 := Tryz.underlying44
 have hu1 := Tryz.underlying65
 have hu2 := Tryz.underlying93
 have HF := Aside0.mk (show stDefB s fs sts = (s.f1.all (oneOf fs) && (s.f2.all (goesTo sts) && (((s.f1.length : Int) == (fs.length : Int)) && unlikeB (s.f1.map nm)))) from rfl)
 go_enter Tryz.func55, Tryz.ntmps55
 go_wp2_with ((with_reducible refine gate_dst (N := 3) rfl ?_); refine box_event ?hg (N := 3) ?hd (cs := #[.string s.f0, .slice A1 (s.f1).length c1, .slice A2 (s.f2).length c2]) (t := 65) ?hr ?_; (case hd => rfl); (case hg => rfl); (case hr => first | (go_simp; done) | (go_simp; rfl)); intro g3 hg_ w_ hbox hb; have B3 := Aside0.mk hbox; have LB3 := Aside0.mk ((by rw [hg_]; exact below_size HB.out) : w.heap.size ≤ g3); replace HB := Aside0.mk (below_step HB.out hb); clear hb hbox hg_; have cg3_0 := (blk_cell B3.out 0).trans rfl; have cg3_1 := (blk_cell B3.out 1).trans rfl; have cg3_2 := (blk_cell B3.out 2).trans rfl)
 clear cg3_0 cg3_1 cg3_2
 go_loopg [7, 15] s.f1.length (fun gg s7 s15 wr => ∃ (kk : Nat) (v : Value), kk ≤ s.f1.length ∧ s.f1.length - kk ≤ gg ∧ s15 = .int .i64 kk ∧ s7 = v ∧ Aside0 (Below w.heap.size w wr) ∧ Aside0 (wr.heap[g3]? = some (.cells #[.string s.f0, .slice A1 (s.f1).length c1, .slice A2 (s.f2).length c2] 65 (0, 0))) ∧ Aside0 (Kd.string.R 9 wr w.heap.size (fun _ => True) v ((s.f1.take kk).map nm)) ∧ Aside0 (∀ j, j < kk → oneOf fs (s.f1.getD j z44) = true))
 case atStart => exact ⟨0, _, Nat.zero_le _, by omega, rfl, rfl, HB, B3, ⟨Kd.R_nil _ _ _ _ _⟩, ⟨fun j hj => absurd hj (Nat.not_lt_zero _)⟩⟩
 case round =>
   clear HB B3
   obtain ⟨kk, v, hkk, hg, rfl, rfl, HB, B3, HO, N⟩ := hrel
   have hmx : s.f1.length ≤ 9223372036854775807 := (G1.out).2.1
   by_cases hlt : kk < s.f1.length
   · have hltz : (kk : Int) < (s.f1.length : Int) := by omega
     have HMT := Aside0.mk (map_take' s.f1 nm z44 kk hlt)
     have hpl : ((s.f1.take kk).map nm).length = kk := by simp; omega
     obtain ⟨qad, qcs, rfl, _, qK, qcc⟩ := Kd.C_get G1.out z44 (kk : Int) (by omega) (by omega)
     have qK' := qK
     obtain ⟨qA0, qc0, qA4, qc4, qA5, qc5, rfl, ql0, qg0, ql4, qg4, ql5, qg5⟩ := k44_open qK'
     have qx0 := (HB.out.cell (World.block_lt_of_cell? w _ (qcc 0 _ rfl))).trans (qcc 0 _ rfl)
     have qx1 := (HB.out.cell (World.block_lt_of_cell? w _ (qcc 1 _ rfl))).trans (qcc 1 _ rfl)
     have qx2 := (HB.out.cell (World.block_lt_of_cell? w _ (qcc 2 _ rfl))).trans (qcc 2 _ rfl)
     have qx3 := (HB.out.cell (World.block_lt_of_cell? w _ (qcc 3 _ rfl))).trans (qcc 3 _ rfl)
     have qx4 := (HB.out.cell (World.block_lt_of_cell? w _ (qcc 4 _ rfl))).trans (qcc 4 _ rfl)
     have qx5 := (HB.out.cell (World.block_lt_of_cell? w _ (qcc 5 _ rfl))).trans (qcc 5 _ rfl)
     rw [show (k44).sz = 6 from rfl, Nat.add_zero, Int.toNat_natCast] at qx0
     rw [show (k44).sz = 6 from rfl, Int.toNat_natCast, add_field _ _ 1 (by omega)] at qx1
     rw [show (k44).sz = 6 from rfl, Int.toNat_natCast, add_field _ _ 2 (by omega)] at qx2
     rw [show (k44).sz = 6 from rfl, Int.toNat_natCast, add_field _ _ 3 (by omega)] at qx3
     rw [show (k44).sz = 6 from rfl, Int.toNat_natCast, add_field _ _ 4 (by omega)] at qx4
     rw [show (k44).sz = 6 from rfl, Int.toNat_natCast, add_field _ _ 5 (by omega)] at qx5
     clear qcc
     try simp only [Int.toNat_natCast] at qx0 qx1 qx2 qx3 qx4 qx5 qK ql0 qg0 ql4 qg4 ql5 qg5
     generalize Yq0 : s.f1.getD kk z44 = q at qx0 qx1 qx2 qx3 qx4 qx5 qK ql0 qg0 ql4 qg4 ql5 qg5
     have Yq := Aside0.mk Yq0; clear Yq0
     have qL0 := Aside0.mk ql0; have qG0 := Aside0.mk qg0; clear ql0 qg0
     have qL4 := Aside0.mk ql4; have qG4 := Aside0.mk qg4; clear ql4 qg4
     have qL5 := Aside0.mk ql5; have qG5 := Aside0.mk qg5; clear ql5 qg5
     have h := HMT.out
     rw [Yq.out] at h
     have HMT2 := Aside0.mk h
     clear h
     clear HMT
     obtain ⟨Ao, co, rfl⟩ := Kd.R_slice HO.out
     have HL2 := Aside0.mk (show (((s.f1.take kk).map nm).length + 1) * 16 ≤ 140737488355328 by omega)
     generalize hpre : (s.f1.take kk).map nm = pre at HO HL2 HMT2 ⊢
     clear hpre hpl
     have HQ := Aside0.mk (show oneOf fs q = (((q.f0.length : Int) == 1) && inB fs (nm q)) from rfl)
     cases h1 : ((q.f0.length : Int) == 1) with
     | false =>
       have h1' : ((q.f0.length : Int) != 1) = true := by rw [bne, h1]; rfl
       have H1 := Aside0.mk h1; clear h1
       go_wp2_with ((with_reducible refine gate_store (t := 44) (p := 9) rfl ?_); refine store_whole rfl rfl 44 _ _ rfl wr.heap.size _ 44 rfl (blk_new _ _) _ rfl rfl rfl (by simp [Value.oneCell']) ?_; intro w2 hb2 hg2; replace B3 := Aside0.mk (blk_as B3.out hg2); replace HB := Aside0.mk (below_as HB.out hg2); replace HO := Aside0.mk (R_as HO.out hg2); obtain ⟨ge, hq_⟩ : ∃ g_, g_ = wr.heap.size := ⟨_, rfl⟩; rw [← hq_] at hb2; rw [← hq_]; have BE := Aside0.mk hb2; clear hb2 hg2 hq_; have ce_0 := (blk_cell BE.out 0).trans rfl; have ce_1 := (blk_cell BE.out 1).trans rfl; have ce_2 := (blk_cell BE.out 2).trans rfl; have ce_3 := (blk_cell BE.out 3).trans rfl; have ce_4 := (blk_cell BE.out 4).trans rfl; have ce_5 := (blk_cell BE.out 5).trans rfl)
       go_ret
       exact ⟨by rw [HF.out, all_getD_no s.f1 (oneOf fs) z44 kk hlt (by rw [Yq.out, HQ.out, H1.out]; simp)]; rfl, HB.out⟩
     | true =>
     have h1' : ((q.f0.length : Int) != 1) = false := by rw [bne, h1]; rfl
     have hq1 : q.f0.length = 1 := by have := beq_iff_eq.1 h1; omega
     have H1 := Aside0.mk h1; clear h1
     have hq0 : 0 < q.f0.length := by omega
     have hq0z : (0 : Int) < (q.f0.length : Int) := by omega
     obtain ⟨xad, xcs, rfl, _, xK, xcc⟩ := Kd.C_get qG0.out (⟨#[]⟩ : ByteArray) ((0 : Nat) : Int) (by omega) (by omega)
     obtain rfl := xK
     have xx0 := (HB.out.cell (World.block_lt_of_cell? w _ (xcc 0 _ rfl))).trans (xcc 0 _ rfl)
     simp only [show Kd.string.sz = 1 from rfl, Nat.mul_one, Nat.add_zero, Int.toNat_natCast] at xx0
     clear xcc
     try simp only [Int.toNat_natCast] at xx0
     generalize Yx00 : q.f0.getD 0 (⟨#[]⟩ : ByteArray) = x0 at xx0
     have Yx0 := Aside0.mk Yx00; clear Yx00
     simp only [Nat.zero_mul, add_zero'] at xx0
     try simp only [add_zero'] at xx0
     have HNM := Aside0.mk (show nm q = x0 from Yx0.out)
     have hin := fun (W : World) (hB : Below w.heap.size w W) => contains_calls Af cf fs x0 W (Kd.C_below HFS.out hB) HFC.out
     have h := HQ.out
     rw [H1.out, HNM.out, Bool.true_and] at h
     have HQ2 := Aside0.mk h
     clear h
     clear hq1
     generalize inB fs x0 = b at hin HQ2
     go_wp2_with ((with_reducible refine gate_store (t := 44) (p := 9) rfl ?_); refine store_whole rfl rfl 44 _ _ rfl wr.heap.size _ 44 rfl (blk_new _ _) _ rfl rfl rfl (by simp [Value.oneCell']) ?_; intro w2 hb2 hg2; replace B3 := Aside0.mk (blk_as B3.out hg2); replace HB := Aside0.mk (below_as HB.out hg2); replace HO := Aside0.mk (R_as HO.out hg2); obtain ⟨ge, hq_⟩ : ∃ g_, g_ = wr.heap.size := ⟨_, rfl⟩; rw [← hq_] at hb2; rw [← hq_]; have BE := Aside0.mk hb2; replace xx0 := (show w2.cell? _ = _ from (cell_as xx0 hg2)); clear hb2 hg2 hq_; have ce_0 := (blk_cell BE.out 0).trans rfl; have ce_1 := (blk_cell BE.out 1).trans rfl; have ce_2 := (blk_cell BE.out 2).trans rfl; have ce_3 := (blk_cell BE.out 3).trans rfl; have ce_4 := (blk_cell BE.out 4).trans rfl; have ce_5 := (blk_cell BE.out 5).trans rfl)
     with_reducible refine (hin _ HB.out).mono ?_
     rintro e w5 ⟨rfl, hb⟩
     replace B3 := Aside0.mk (below_blk B3.out hb)
     replace BE := Aside0.mk (below_blk BE.out hb)
     replace HO := Aside0.mk (Kd.R_below HO.out hb)
     replace xx0 := pw_cell_below hb xx0
     replace HB := Aside0.mk (below_step HB.out hb)
     clear hb
     clear ce_0 ce_1 ce_2 ce_3 ce_4 ce_5
     have ce_0 := (blk_cell BE.out 0).trans rfl
     have ce_1 := (blk_cell BE.out 1).trans rfl
     have ce_2 := (blk_cell BE.out 2).trans rfl
     have ce_3 := (blk_cell BE.out 3).trans rfl
     have ce_4 := (blk_cell BE.out 4).trans rfl
     have ce_5 := (blk_cell BE.out 5).trans rfl
     cases b with
     | false =>
       go_wp2_with fail
       go_ret
       exact ⟨by rw [HF.out, all_getD_no s.f1 (oneOf fs) z44 kk hlt (by rw [Yq.out, HQ2.out])]; rfl, HB.out⟩
     | true =>
       go_wp2_with (at_builtin; refine Kd.R_append Kd.string (w0 := w) (W := w5) w.heap.size rfl _ _ 32 9 (.string ⟨#[]⟩) 16 rfl Tryz.underlying32 info9 rfl (by decide) (by omega) (.slice Ao pre.length co) pre x0 [.string x0] (fun _ => True) (fun _ => False) rfl rfl ?aP (fun _ hk => hk.elim) ?aF ?aO ?aB ?aS ?aL ?_; (case aP => exact rfl); (case aO => exact HO.out); (case aF => exact (fun _ _ => trivial)); (case aB => exact HB.out); (case aS => exact HB.out.size); (case aL => exact HL2.out); intro v1 w6 ho_ hb_ hg_ hat_; have HO6 := Aside0.mk ho_; have HB6 := Aside0.mk hb_; have B36 := Aside0.mk (blk_grown B3.out hg_ (Kd.R_ne HO.out B3.out (by decide))); clear ho_ hb_ hg_ hat_)
       go_roundg (s.f1.length - (kk + 1))
       case measure => omega
       case rel =>
         refine ⟨kk + 1, _, by omega, by omega, by go_num, rfl, HB6, B36, ⟨by rw [HMT2.out, HNM.out]; exact HO6.out⟩, ⟨fun j hj => ?_⟩⟩
         by_cases e : j = kk
         · subst e; rw [Yq.out]; exact HQ2.out
         · exact N.out j (by omega)
   · have hltz : ¬ (kk : Int) < (s.f1.length : Int) := by omega
     obtain rfl : kk = s.f1.length := by omega
     have AE := Aside0.mk (all_getD _ _ _ N.out)
     have ho := HO.out
     rw [List.take_length] at ho
     obtain ⟨Ao, co, rfl⟩ := Kd.R_slice ho
     clear N hg hkk HO
     have HO := Aside0.mk ho; clear ho
     have hml : (s.f1.map nm).length = s.f1.length := by simp
     have HML := Aside0.mk hml; clear hml
     generalize hmm : s.f1.map nm = mm at HO HF HML ⊢
     have HMM := Aside0.mk hmm; clear hmm
     have cg3_0 := (blk_cell B3.out 0).trans rfl
     have cg3_1 := (blk_cell B3.out 1).trans rfl
     have cg3_2 := (blk_cell B3.out 2).trans rfl
     go_wp2_with fail
     clear cg3_0 cg3_1 cg3_2
     go_loopg [43] s.f2.length (fun gg s_ wr => ∃ kk : Nat, kk ≤ s.f2.length ∧ s.f2.length - kk ≤ gg ∧ s_ = .int .i64 kk ∧ Aside0 (Below w.heap.size w wr) ∧ Aside0 (Kd.string.R 9 wr w.heap.size (fun _ => True) (.slice Ao mm.length co) mm) ∧ Aside0 (∀ j, j < kk → goesTo sts (s.f2.getD j z93) = true))
     case atStart => exact ⟨0, Nat.zero_le _, by omega, rfl, HB, HO, ⟨fun j hj => absurd hj (Nat.not_lt_zero _)⟩⟩
     case round =>
       clear HB HO
       obtain ⟨kk, hkk, hg, rfl, HB, HO, N⟩ := hrel
       have hmx2 : s.f2.length ≤ 9223372036854775807 := (G2.out).2.1
       by_cases hlt : kk < s.f2.length
       · have hltz : (kk : Int) < (s.f2.length : Int) := by omega
         obtain ⟨yad, ycs, rfl, _, yK, ycc⟩ := Kd.C_get G2.out z93 (kk : Int) (by omega) (by omega)
         have yK' := yK
         obtain ⟨yA3, yc3, yA4, yc4, rfl, yl3, yg3, yl4, yg4⟩ := k93_open yK'
         have yx0 := (HB.out.cell (World.block_lt_of_cell? w _ (ycc 0 _ rfl))).trans (ycc 0 _ rfl)
         have yx1 := (HB.out.cell (World.block_lt_of_cell? w _ (ycc 1 _ rfl))).trans (ycc 1 _ rfl)
         have yx2 := (HB.out.cell (World.block_lt_of_cell? w _ (ycc 2 _ rfl))).trans (ycc 2 _ rfl)
         have yx3 := (HB.out.cell (World.block_lt_of_cell? w _ (ycc 3 _ rfl))).trans (ycc 3 _ rfl)
         have yx4 := (HB.out.cell (World.block_lt_of_cell? w _ (ycc 4 _ rfl))).trans (ycc 4 _ rfl)
         have yx5 := (HB.out.cell (World.block_lt_of_cell? w _ (ycc 5 _ rfl))).trans (ycc 5 _ rfl)
         rw [show (k93).sz = 6 from rfl, Nat.add_zero, Int.toNat_natCast] at yx0
         rw [show (k93).sz = 6 from rfl, Int.toNat_natCast, add_field _ _ 1 (by omega)] at yx1
         rw [show (k93).sz = 6 from rfl, Int.toNat_natCast, add_field _ _ 2 (by omega)] at yx2
         rw [show (k93).sz = 6 from rfl, Int.toNat_natCast, add_field _ _ 3 (by omega)] at yx3
         rw [show (k93).sz = 6 from rfl, Int.toNat_natCast, add_field _ _ 4 (by omega)] at yx4
         rw [show (k93).sz = 6 from rfl, Int.toNat_natCast, add_field _ _ 5 (by omega)] at yx5
         clear ycc
         try simp only [Int.toNat_natCast] at yx0 yx1 yx2 yx3 yx4 yx5 yK yl3 yg3 yl4 yg4
         generalize Yy0 : s.f2.getD kk z93 = y at yx0 yx1 yx2 yx3 yx4 yx5 yK yl3 yg3 yl4 yg4
         have Yy := Aside0.mk Yy0; clear Yy0
         have yL3 := Aside0.mk yl3; have yG3 := Aside0.mk yg3; clear yl3 yg3
         have yL4 := Aside0.mk yl4; have yG4 := Aside0.mk yg4; clear yl4 yg4
         have hgo := fun (W : World) (gb : Nat) (hB : Below w.heap.size w W) (hb : W.heap[gb]? = some (.cells #[.int .i64 y.f0.f0, .string y.f0.f1, .int .i64 y.f0.f2, .slice yA3 (y.f0.f3).length yc3, .slice yA4 (y.f0.f4).length yc4, .string y.f1] 93 (0, 0))) => goes_any y yA3 yc3 yA4 yc4 gb w W As cs sts HST.out hB hb
         generalize hgb : goesTo sts y = b at hgo
         have HGB := Aside0.mk hgb; clear hgb
         go_wp2_with ((with_reducible refine gate_store (t := 93) (p := 11) rfl ?_); refine store_whole rfl rfl 93 _ _ rfl wr.heap.size _ 93 rfl (blk_new _ _) _ rfl rfl rfl (by simp [Value.oneCell']) ?_; intro w2 hb2 hg2; replace HB := Aside0.mk (below_as HB.out hg2); replace HO := Aside0.mk (R_as HO.out hg2); obtain ⟨ge, hq_⟩ : ∃ g_, g_ = wr.heap.size := ⟨_, rfl⟩; rw [← hq_] at hb2; rw [← hq_]; have BE := Aside0.mk hb2; clear hb2 hg2 hq_)
         with_reducible refine (hgo _ _ HB.out BE.out).mono ?_
         rintro e w5 ⟨rfl, hb⟩
         replace HO := Aside0.mk (Kd.R_below HO.out hb)
         replace HB := Aside0.mk (below_step HB.out hb)
         clear hb
         cases b with
         | false =>
           go_wp2_with fail
           go_ret
           exact ⟨by rw [HF.out, AE.out, all_getD_no s.f2 (goesTo sts) z93 kk hlt (by rw [Yy.out, HGB.out])]; rfl, HB.out⟩
         | true =>
           go_wp2_with fail
           go_roundg (s.f2.length - (kk + 1))
           case measure => omega
           case rel =>
             refine ⟨kk + 1, by omega, by omega, by go_num, HB, HO, ⟨fun j hj => ?_⟩⟩
             by_cases e : j = kk
             · subst e; rw [Yy.out]; exact HGB.out
             · exact N.out j (by omega)
       · have hltz : ¬ (kk : Int) < (s.f2.length : Int) := by omega
         obtain rfl : kk = s.f2.length := by omega
         have AW := Aside0.mk (all_getD _ _ _ N.out)
         clear N hg hkk
         have hun := fun (W : World) (hC : Kd.string.C W Ao mm.length mm) => unlike_calls Ao co mm W hC
         have hRC := (Kd.R_reads' HO.out).2.2
         have HRC := Aside0.mk hRC; clear hRC
         have hlenE : ((mm.length : Int) == (fs.length : Int)) = ((s.f1.length : Int) == (fs.length : Int)) := by rw [HML.out]
         have HLE := Aside0.mk hlenE; clear hlenE
         have h := HF.out
         rw [AE.out, AW.out, ← HLE.out, Bool.true_and, Bool.true_and] at h
         have HF2 := Aside0.mk h
         clear h
         generalize unlikeB mm = u at hun HF2
         cases hle : ((mm.length : Int) == (fs.length : Int)) with
         | false =>
           have hleN : (mm.length == fs.length) = false := by rw [beq_eq_false_iff_ne]; intro h; rw [h] at hle; simp at hle
           have HLX := Aside0.mk hle
           go_wp2_with fail
           go_ret
           exact ⟨by rw [HF2.out, HLX.out]; rfl, HB.out⟩
         | true =>
           have hleN : (mm.length == fs.length) = true := by have := beq_iff_eq.1 hle; rw [beq_iff_eq]; omega
           have HLX := Aside0.mk hle
           go_wp2_with fail
           refine (hun _ HRC.out).mono ?_
           rintro e w9 ⟨rfl, hb⟩
           have HB9 := Aside0.mk (below_step HB.out hb); clear hb
           go_wp2_with fail
           go_ret
           exact ⟨by rw [HF2.out, HLX.out]; rfl, HB9.out⟩
def RowPost (l : List ByteArray) (w : World) (e : Ending) (w' : World) : Prop :=
 ∃ v, e = .returned v ∧ Kd.string.R 9 w' w.heap.size (fun _ => True) v l ∧ Below w.heap.size w w'
theorem row_empty {w : World} {g G base : Nat} {cur : Array Value} (hg : base ≤ g) (hb : w.heap[g]? = some (.cells cur 9 (0, 0))) (hs : cur.size = G) (hG : G ≤ maxLen) :
   Kd.string.R 9 w base (fun _ => True) (.slice (some ⟨g, 0, none⟩) 0 G) [] :=
 ⟨fun _ _ => trivial, [], ⟨by simp, .inr ⟨g, G, cur, rfl, hg, hb, Nat.zero_le _, hG, by rw [hs]; simp [Kd.string, Kd.scalar], by simp⟩⟩, Reps.none _ _⟩
set_option maxHeartbeats 4000000 in
theorem grow_calls (n : Nat) (w : World) (hn : n * 16 ≤ 140737488355328) : Calls Tryz.prog 75 #[.slice none 0 0, .int .i64 n] w (RowPost [] w) := by
 have hu := Tryz.underlying32
 obtain ⟨i0, hi, hzz⟩ := Option.map_eq_some_iff.1 info9
 simp only [Prod.mk.injEq] at hzz
 obtain ⟨hz0, hz1, hz2⟩ := hzz
 have w1 : wrap64 (0 - 0) = 0 := by unfold wrap64; omega
 by_cases h0 : n = 0
 · subst h0
   go_enter Tryz.func75, Tryz.ntmps75
   go_wp2_with fail
   go_ret
   exact ⟨_, rfl, Kd.R_nil _ _ _ _ _, Below.refl _ _⟩
 · have hpos : (n : Int) > 0 := by omega
   have hneg : ¬ ((n : Int) < 0) := by omega
   have hnn : 0 ≤ (n : Int) := by omega
   have hnb : (n : Int) ≤ 8796093022208 := by omega
   have hold : (Builtin.firstCells i0.size 0 (.slice none 0 0)).run Tryz.prog w.drew = .ok ([] : List Value).toArray w.drew := run_firstCells_none w.drew i0.size 0 0 0
   have hrz : ∀ ty, (Builtin.append_ #[32, 3] ty #[.slice none 0 0, .int .i64 (n : Int)]).run Tryz.prog w = .ok (.slice (some ⟨w.heap.size, 0, none⟩) (0 + n) (grownCap w (0 + n) 0 9)) (w.drew.alloc (.cells (([] : List Value).toArray ++ Builtin.zeroCells (Value.string ⟨#[]⟩).cells n ++ Builtin.zeroCells (Value.string ⟨#[]⟩).cells (grownCap w (0 + n) 0 9 - (0 + n))) 9)) := fun ty =>
     Lib.run_append_grow_zeros w 32 3 ty 9 i0 (.string ⟨#[]⟩) .i64 .i64 hu Tryz.underlying3 hi hz0 none 0 0 [] hold n (by omega) (by rw [hz1]; decide) (by omega) (by omega) (by rw [hz2]; omega) (by rw [hz2]; exact growslice_fits (by omega) (by omega))
   have hGn : 0 + n ≤ grownCap w (0 + n) 0 9 := grownCap_ge w _ _ _
   have hG63 := grownCap_le_maxLen w (0 + n) 0 9 (by unfold maxLen; omega)
   obtain ⟨G, hG⟩ : ∃ G, G = grownCap w (0 + n) 0 9 := ⟨_, rfl⟩
   rw [← hG] at hrz hGn hG63
   have hGM := Aside0.mk hG63
   unfold maxLen at hG63
   simp only [Nat.zero_add] at hrz hGn
   clear hold hG h0 hi hz0 hz1 hz2 hn
   have HR := Aside0.mk hrz; clear hrz
   have HSZ := Aside0.mk (show (([] : List Value).toArray ++ Builtin.zeroCells (Value.string ⟨#[]⟩).cells n ++ Builtin.zeroCells (Value.string ⟨#[]⟩).cells (G - n)).size = G by simp [Builtin.zeroCells, Value.cells]; omega)
   generalize ([] : List Value).toArray ++ Builtin.zeroCells (Value.string ⟨#[]⟩).cells n ++ Builtin.zeroCells (Value.string ⟨#[]⟩).cells (G - n) = cur at HR HSZ
   go_enter Tryz.func75, Tryz.ntmps75
   go_wp2_with (at_builtin; refine Lib.wpList_append_run _ rfl _ _ _ _ rfl _ _ rfl rfl _ _ (HR.out _) ?_)
   go_ret
   exact ⟨_, rfl, row_empty (Nat.le_refl _) (by have := blk_new w.drew (.cells cur 9 (0, 0)); exact this) HSZ.out hGM.out, below_alloc (below_drew1 (Below.refl _ _)) _⟩
set_option maxHeartbeats 8000000 in
theorem concat_calls (xs ys : List ByteArray) (A A' : Option Addr) (c c' g : Nat) (w : World) (hg : w.heap[g]? = some (.cells #[.slice A xs.length c, .slice A' ys.length c'] 32 (0, 0))) (hx : Kd.string.C w A xs.length xs) (hy : Kd.string.C w A' ys.length ys) (hl : xs.length ≤ 100 ∧ ys.length ≤ 100) :
   Calls Tryz.prog 52 #[.slice (some ⟨g, 0, none⟩) 2 2] w (RowPost (xs ++ ys) w) := by
 have HG0 := Aside0.mk hg; have HG := Aside0.mk hg; have HX := Aside0.mk hx; have HY := Aside0.mk hy
 obtain ⟨hl1, hl2⟩ := hl
 have c0 := (blk_cell hg 0).trans rfl
 have c1 := (blk_cell hg 1).trans rfl
 clear hg hx hy
 have i1 : (xs.length : Int) ≤ 100 := by omega
 have i2 : (ys.length : Int) ≤ 100 := by omega
 have n1 : 0 ≤ (xs.length : Int) := by omega
 have n2 : 0 ≤ (ys.length : Int) := by omega
 have hgr : ∀ W, Calls Tryz.prog 75 #[.slice none 0 0, .int .i64 ((xs.length : Int) + (ys.length : Int))] W (RowPost [] W) := fun W => by
   have h := grow_calls (xs.length + ys.length) W (by omega)
   rw [Int.natCast_add] at h; exact h
 have k1 : ¬ ((xs.length : Int) < 0) := by omega
 have k2 : ¬ ((xs.length : Int) + (ys.length : Int) < 0) := by omega
 go_enter Tryz.func52, Tryz.ntmps52
 go_wp2_with fail
 refine wp_loop_rounds 3 ?_
 rw [rounds_succ]
 go_wp2_with fail
 rw [rounds_succ]
 go_wp2_with fail
 rw [rounds_succ]
 go_wp2_with fail
 refine (hgr _).mono ?_
 rintro e w3 ⟨v, rfl, ho, hb⟩
 have HO := Aside0.mk ho; have HB := Aside0.mk hb
 replace HG := Aside0.mk (below_blk HG.out hb)
 clear ho hb hgr c0 c1
 have c0 := (blk_cell HG.out 0).trans rfl
 have c1 := (blk_cell HG.out 1).trans rfl
 obtain ⟨Ao, co, rfl⟩ := Kd.R_slice HO.out
 go_wp2_with fail
 refine wp_loop_rounds 3 ?_
 rw [rounds_succ]
 go_wp2_with (first | (go_loud (at_builtin; refine Kd.R_append_rows Kd.string (w0 := w) w.heap.size rfl _ _ 32 9 (.string ⟨#[]⟩) 16 rfl Tryz.underlying32 info9 rfl (by decide) (by omega) (.slice Ao ([] : List ByteArray).length co) ([] : List ByteArray) xs A xs.length c (fun _ => True) (fun _ => False) rfl rfl ?aO ?aR (fun _ _ h => h) (fun _ h => h.elim) ?aF ?aB ?aS ?aL ?_; (case aO => exact HO.out); (case aR => exact Kd.C_below HX.out HB.out); (case aF => exact (fun _ _ => trivial)); (case aB => exact HB.out); (case aS => exact HB.out.size); (case aL => (simp only [List.length_nil, List.nil_append, List.length_append]; omega)); intro v1 w4 ho_ hb_ hg_ hat_; have HO4 := Aside0.mk ho_; have HB4 := Aside0.mk hb_; clear ho_ hb_ hg_ hat_)))
 clear c0 c1
 have HG4 := Aside0.mk (below_blk HG0.out HB4.out)
 have c0 := (blk_cell HG4.out 0).trans rfl
 have c1 := (blk_cell HG4.out 1).trans rfl
 obtain ⟨Ao4, co4, rfl⟩ := Kd.R_slice HO4.out
 rw [rounds_succ]
 go_wp2_with (at_builtin; refine Kd.R_append_rows Kd.string (w0 := w) w.heap.size rfl _ _ 32 9 (.string ⟨#[]⟩) 16 rfl Tryz.underlying32 info9 rfl (by decide) (by omega) (.slice Ao4 (([] : List ByteArray) ++ xs).length co4) (([] : List ByteArray) ++ xs) ys A' ys.length c' (fun _ => True) (fun _ => False) rfl rfl ?aO ?aR (fun _ _ h => h) (fun _ h => h.elim) ?aF ?aB ?aS ?aL ?_; (case aO => exact HO4.out); (case aR => exact Kd.C_below HY.out HB4.out); (case aF => exact (fun _ _ => trivial)); (case aB => exact HB4.out); (case aS => exact HB4.out.size); (case aL => (simp only [List.length_nil, List.nil_append, List.length_append]; omega)); intro v1 w5 ho_ hb_ hg_ hat_; have HO5 := Aside0.mk ho_; have HB5 := Aside0.mk hb_; clear ho_ hb_ hg_ hat_)
 rw [rounds_succ]
 go_wp2_with fail
 go_ret
 exact ⟨_, rfl, by have h := HO5.out; rw [List.nil_append] at h; exact h, HB5.out⟩
def varsL (n : S35) : List ByteArray := n.f2 ++ n.f4.flatMap definesL
set_option maxHeartbeats 4000000 in
theorem clone_calls (l : List ByteArray) (A : Option Addr) (c : Nat) (w : World) (hC : Kd.string.C w A l.length l) (hl : l.length * 16 ≤ 140737488355328) :
   Calls Tryz.prog 22 #[.slice A l.length c] w (RowPost l w) := by
 have q22 : ∀ (w : World) (a : Option Addr) (n c n' c' : Nat), (binOp .eql 32 (.slice a n c) (.slice none n' c')).run Tryz.prog w = .ok (.bool a.isNone) w := fun w a n c n' c' => Lib.run_eql_slice_nil w _ _ a n c n' c' Tryz.underlying32
 have hu := Tryz.underlying32
 cases A with
 | none =>
   have h0 : l = [] := by
     cases l with
     | nil => rfl
     | cons a r => obtain ⟨ad, e, _⟩ := hC.2.2 (by simp); cases e
   subst h0
   clear hC hl
   go_enter Tryz.func22, Tryz.ntmps22
   go_wp2_with fail
   go_ret
   exact ⟨_, rfl, Kd.R_nil _ _ _ _ _, Below.refl _ _⟩
 | some ad =>
   have HC := Aside0.mk hC; have HL := Aside0.mk hl
   clear hC hl
   go_enter Tryz.func22, Tryz.ntmps22
   go_wp2_with (at_builtin; refine Kd.R_append_rows Kd.string (w0 := w) w.heap.size rfl _ _ 32 9 (.string ⟨#[]⟩) 16 rfl Tryz.underlying32 info9 rfl (by decide) (by omega) (.slice (some ⟨w.heap.size, 0, none⟩) 0 0) ([] : List ByteArray) l (some ad) l.length c (fun _ => True) (fun _ => False) rfl rfl ?aO ?aR (fun _ _ h => h) (fun _ h => h.elim) ?aF ?aB ?aS ?aL ?_; (case aO => exact row_empty (Nat.le_refl _) (blk_new w _) rfl (Nat.zero_le _)); (case aR => exact Kd.C_below HC.out (below_alloc (Below.refl _ _) _)); (case aF => exact (fun _ _ => trivial)); (case aB => exact below_alloc (Below.refl _ _) _); (case aS => exact (below_alloc (Below.refl w.heap.size w) _).size); (case aL => (have h := HL.out; simp only [List.length_nil]; omega)); intro v1 w6 ho_ hb_ hg_ hat_; have HO6 := Aside0.mk ho_; have HB6 := Aside0.mk hb_; clear ho_ hb_ hg_ hat_)
   go_ret
   exact ⟨v1, rfl, by have h := HO6.out; rw [List.nil_append] at h; exact h, HB6.out⟩
set_option maxHeartbeats 8000000 in
theorem vars_calls (n : S35) (w : World) (csx : List Value) (hK : k35.K w n csx) (hlen : (varsL n).length * 16 ≤ 140737488355328) :
   Calls Tryz.prog 11 #[.agg csx.toArray] w (StrsPost (varsL n) w) := by
 obtain ⟨A1, c1, A2, c2, A3, c3, A4, c4, rfl, l1, g1, l2, g2, l3, g3, l4, g4⟩ := k35_open hK
 have L1 := Aside0.mk l1; have G1 := Aside0.mk g1; clear l1 g1
 have L2 := Aside0.mk l2; have G2 := Aside0.mk g2; clear l2 g2
 have L3 := Aside0.mk l3; have G3 := Aside0.mk g3; clear l3 g3
 have L4 := Aside0.mk l4; have G4 := Aside0.mk g4; clear l4 g4
 clear hK
 have HB := Aside0.mk (Below.refl w.heap.size w)
 have hu1 := Tryz.underlying35
 have hu2 := Tryz.underlying47
 have HD := Aside0.mk (show varsL n = n.f2 ++ n.f4.flatMap definesL from rfl)
 rw [HD.out, List.length_append] at hlen
 have HLL := Aside0.mk hlen
 have hcl := fun (W : World) (hB : Below w.heap.size w W) => clone_calls n.f2 A2 c2 W (Kd.C_below G2.out hB) (by have := HLL.out; omega)
 clear hlen
 go_enter Tryz.func11, Tryz.ntmps11
 go_wp2_with ((with_reducible refine gate_dst (N := 1) rfl ?_); refine box_event ?hg (N := 1) ?hd (cs := #[.string n.f0, .slice A1 (n.f1).length c1, .slice A2 (n.f2).length c2, .slice A3 (n.f3).length c3, .slice A4 (n.f4).length c4]) (t := 35) ?hr ?_; (case hd => rfl); (case hg => rfl); (case hr => first | (go_simp; done) | (go_simp; rfl)); intro g1 hg_ w_ hbox hb; have B1 := Aside0.mk hbox; have LB1 := Aside0.mk ((by rw [hg_]; exact below_size HB.out) : w.heap.size ≤ g1); replace HB := Aside0.mk (below_step HB.out hb); clear hb hbox hg_; have c1_0 := (blk_cell B1.out 0).trans rfl; have c1_1 := (blk_cell B1.out 1).trans rfl; have c1_2 := (blk_cell B1.out 2).trans rfl; have c1_3 := (blk_cell B1.out 3).trans rfl; have c1_4 := (blk_cell B1.out 4).trans rfl)
 refine (hcl _ HB.out).mono ?_
 rintro e w3 ⟨v0, rfl, ho, hb⟩
 replace B1 := Aside0.mk (below_blk B1.out hb)
 have HO0 := Aside0.mk (Kd.R_lower ho HB.out.size)
 replace HB := Aside0.mk (below_step HB.out hb)
 clear ho hb hcl c1_0 c1_1 c1_2 c1_3 c1_4
 have c1_0 := (blk_cell B1.out 0).trans rfl
 have c1_1 := (blk_cell B1.out 1).trans rfl
 have c1_2 := (blk_cell B1.out 2).trans rfl
 have c1_3 := (blk_cell B1.out 3).trans rfl
 have c1_4 := (blk_cell B1.out 4).trans rfl
 go_wp2_with fail
 clear c1_0 c1_1 c1_2 c1_3 c1_4
 have HO := Aside0.mk (show Kd.string.R 9 w3 w.heap.size (fun _ => True) v0 (n.f2 ++ (n.f4.take 0).flatMap definesL) by rw [List.take_zero, List.flatMap_nil, List.append_nil]; exact HO0.out)
 clear HO0
 go_loopg [3, 12] n.f4.length (fun gg s3 s12 wr => ∃ (kk : Nat) (v : Value), kk ≤ n.f4.length ∧ n.f4.length - kk ≤ gg ∧ s12 = .int .i64 kk ∧ s3 = v ∧ Aside0 (Below w.heap.size w wr) ∧ Aside0 (Kd.string.R 9 wr w.heap.size (fun _ => True) v (n.f2 ++ (n.f4.take kk).flatMap definesL)))
 case atStart => exact ⟨0, _, Nat.zero_le _, by omega, rfl, rfl, HB, HO⟩
 case round =>
   clear HB B1 LB1 HO
   obtain ⟨kk, v, hkk, hg, rfl, rfl, HB, HO⟩ := hrel
   have hmx : n.f4.length ≤ 9223372036854775807 := (G4.out).2.1
   by_cases hlt : kk < n.f4.length
   · have hltz : (kk : Int) < (n.f4.length : Int) := by omega
     have HFT := flatMap_take n.f4 definesL z47 kk hlt
     have HLE := flatMap_take_le n.f4 definesL (kk + 1)
     rw [HFT, List.length_append] at HLE
     have hll := HLL.out
     obtain ⟨yad, ycs, rfl, _, yK, ycc⟩ := Kd.C_get G4.out z47 (kk : Int) (by omega) (by omega)
     have yK' := yK
     obtain ⟨yA0, yc0, yA4, yc4, yA5, yc5, yA6, yc6, rfl, yl0, yg0, yl4, yg4, yl5, yg5, yl6, yg6⟩ := k47_open yK'
     have yx0 := (HB.out.cell (World.block_lt_of_cell? w _ (ycc 0 _ rfl))).trans (ycc 0 _ rfl)
     have yx1 := (HB.out.cell (World.block_lt_of_cell? w _ (ycc 1 _ rfl))).trans (ycc 1 _ rfl)
     have yx2 := (HB.out.cell (World.block_lt_of_cell? w _ (ycc 2 _ rfl))).trans (ycc 2 _ rfl)
     have yx3 := (HB.out.cell (World.block_lt_of_cell? w _ (ycc 3 _ rfl))).trans (ycc 3 _ rfl)
     have yx4 := (HB.out.cell (World.block_lt_of_cell? w _ (ycc 4 _ rfl))).trans (ycc 4 _ rfl)
     have yx5 := (HB.out.cell (World.block_lt_of_cell? w _ (ycc 5 _ rfl))).trans (ycc 5 _ rfl)
     have yx6 := (HB.out.cell (World.block_lt_of_cell? w _ (ycc 6 _ rfl))).trans (ycc 6 _ rfl)
     rw [show (k47).sz = 7 from rfl, Nat.add_zero, Int.toNat_natCast] at yx0
     rw [show (k47).sz = 7 from rfl, Int.toNat_natCast, add_field _ _ 1 (by omega)] at yx1
     rw [show (k47).sz = 7 from rfl, Int.toNat_natCast, add_field _ _ 2 (by omega)] at yx2
     rw [show (k47).sz = 7 from rfl, Int.toNat_natCast, add_field _ _ 3 (by omega)] at yx3
     rw [show (k47).sz = 7 from rfl, Int.toNat_natCast, add_field _ _ 4 (by omega)] at yx4
     rw [show (k47).sz = 7 from rfl, Int.toNat_natCast, add_field _ _ 5 (by omega)] at yx5
     rw [show (k47).sz = 7 from rfl, Int.toNat_natCast, add_field _ _ 6 (by omega)] at yx6
     clear ycc
     try simp only [Int.toNat_natCast] at yx0 yx1 yx2 yx3 yx4 yx5 yx6 yK yl0 yg0 yl4 yg4 yl5 yg5 yl6 yg6
     generalize Yy0 : n.f4.getD kk z47 = y at HFT HLE yx0 yx1 yx2 yx3 yx4 yx5 yx6 yK yl0 yg0 yl4 yg4 yl5 yg5 yl6 yg6
     have Yy := Aside0.mk Yy0; clear Yy0
     have yL0 := Aside0.mk yl0; have yG0 := Aside0.mk yg0; clear yl0 yg0
     have yL4 := Aside0.mk yl4; have yG4 := Aside0.mk yg4; clear yl4 yg4
     have yL5 := Aside0.mk yl5; have yG5 := Aside0.mk yg5; clear yl5 yg5
     have yL6 := Aside0.mk yl6; have yG6 := Aside0.mk yg6; clear yl6 yg6
     have HL1 := Aside0.mk (show (definesL y).length * 16 ≤ 140737488355328 by omega)
     have HL2 := Aside0.mk (show ((n.f2 ++ (n.f4.take kk).flatMap definesL).length + (definesL y).length) * 16 ≤ 140737488355328 by rw [List.length_append]; omega)
     have HFT2 := Aside0.mk HFT
     have YK := Aside0.mk yK
     clear HFT HLE yK hll
     obtain ⟨Ao, co, rfl⟩ := Kd.R_slice HO.out
     have HPRE := Aside0.mk (show (n.f2 ++ (n.f4.take kk).flatMap definesL) ++ definesL y = n.f2 ++ (n.f4.take (kk + 1)).flatMap definesL by rw [HFT2.out, List.append_assoc])
     clear HFT2
     generalize n.f2 ++ (n.f4.take kk).flatMap definesL = pre at HO HL2 HPRE ⊢
     have hde := fun (W : World) (hB : Below w.heap.size w W) => defines_calls y W _ (Kd.K_below _ hB YK.out) HL1.out
     generalize definesL y = dl at hde HL2 HPRE
     clear HL1
     go_wp2_with ((with_reducible refine gate_store (t := 47) (p := 5) rfl ?_); refine store_whole rfl rfl 47 _ _ rfl wr.heap.size _ 47 rfl (blk_new _ _) _ rfl rfl rfl (by simp [Value.oneCell']) ?_; intro w2 hb2 hg2; replace HB := Aside0.mk (below_as HB.out hg2); replace HO := Aside0.mk (R_as HO.out hg2); obtain ⟨ge, hq_⟩ : ∃ g_, g_ = wr.heap.size := ⟨_, rfl⟩; rw [← hq_] at hb2; rw [← hq_]; have BE := Aside0.mk hb2; clear hb2 hg2 hq_; have ce_0 := (blk_cell BE.out 0).trans rfl; have ce_1 := (blk_cell BE.out 1).trans rfl; have ce_2 := (blk_cell BE.out 2).trans rfl; have ce_3 := (blk_cell BE.out 3).trans rfl; have ce_4 := (blk_cell BE.out 4).trans rfl; have ce_5 := (blk_cell BE.out 5).trans rfl; have ce_6 := (blk_cell BE.out 6).trans rfl)
     refine (hde _ HB.out).mono ?_
     rintro e w5 ⟨Ad, cd, rfl, hcd, hC, hb⟩
     have HC := Aside0.mk hC
     replace HO := Aside0.mk (Kd.R_below HO.out hb)
     replace HB := Aside0.mk (below_step HB.out hb)
     clear hde hC hb hcd ce_0 ce_1 ce_2 ce_3 ce_4 ce_5 ce_6
     go_wp2_with (at_builtin; refine Kd.R_append_rows Kd.string (w0 := w) w.heap.size rfl _ _ 32 9 (.string ⟨#[]⟩) 16 rfl Tryz.underlying32 info9 rfl (by decide) (by omega) (.slice Ao pre.length co) pre dl Ad dl.length cd (fun _ => True) (fun _ => False) rfl rfl ?aO ?aR (fun _ _ h => h) (fun _ h => h.elim) ?aF ?aB ?aS ?aL ?_; (case aO => exact HO.out); (case aR => exact HC.out); (case aF => exact (fun _ _ => trivial)); (case aB => exact HB.out); (case aS => exact HB.out.size); (case aL => exact HL2.out); intro v1 w6 ho_ hb_ hg_ hat_; have HO6 := Aside0.mk ho_; have HB6 := Aside0.mk hb_; clear ho_ hb_ hg_ hat_)
     go_roundg (n.f4.length - (kk + 1))
     case measure => omega
     case rel => exact ⟨kk + 1, _, by omega, by omega, by go_num, rfl, HB6, ⟨by rw [← HPRE.out]; exact HO6.out⟩⟩
   · have hltz : ¬ (kk : Int) < (n.f4.length : Int) := by omega
     obtain rfl : kk = n.f4.length := by omega
     have ho := HO.out
     rw [List.take_length, ← HD.out] at ho
     obtain ⟨Ao, co, rfl, hco, hC⟩ := Kd.R_reads ho
     have HCO := Aside0.mk hco; have HCC := Aside0.mk hC
     clear ho hco hC HO
     generalize hfl : varsL n = fl at HCO HCC ⊢
     have HFL := Aside0.mk hfl; clear hfl
     go_wp2_with fail
     go_ret
     rw [HFL.out]
     exact ⟨Ao, co, rfl, HCO.out, HCC.out, HB.out⟩
end Go.Proofs.YtggfnbnochmkdaaGreat
namespace Go.Proofs.YtggfnbnochmkdaaGreat
open Go Go.ChangeShapes Go.Deep Go.RowKit Go.Lib Go.Proofs.YtggfnbnochmkdaaGreatW.PrintWords Go.Proofs.YtggfnbnochmkdaaGreat.PScope
set_option maxRecDepth 100000
set_option linter.unusedSimpArgs false
set_option linter.unusedVariables false
theorem cells_int : Tryz.prog.cellsOf 3 = 1 := by kernel_rfl
theorem cells_int64 : Tryz.prog.cellsOf 2 = 1 := by kernel_rfl
theorem cells_string : Tryz.prog.cellsOf 9 = 1 := by kernel_rfl
theorem cells_Expr : Tryz.prog.cellsOf 42 = 5 := by kernel_rfl
theorem cells_Eq : Tryz.prog.cellsOf 44 = 6 := by kernel_rfl
theorem cells_Way : Tryz.prog.cellsOf 93 = 6 := by kernel_rfl
theorem cells_State : Tryz.prog.cellsOf 65 = 3 := by kernel_rfl
theorem cells_Item : Tryz.prog.cellsOf 47 = 7 := by kernel_rfl
theorem cells_Enum : Tryz.prog.cellsOf 38 = 2 := by kernel_rfl
theorem cells_Node : Tryz.prog.cellsOf 35 = 5 := by kernel_rfl
theorem cells_Program : Tryz.prog.cellsOf 25 = 2 := by kernel_rfl
theorem cells_row0 : Tryz.prog.cellsOf 40 = 1 := by kernel_rfl
theorem cells_row1 : Tryz.prog.cellsOf 62 = 1 := by kernel_rfl
theorem cells_row2 : Tryz.prog.cellsOf 63 = 1 := by kernel_rfl
theorem cells_row3 : Tryz.prog.cellsOf 45 = 1 := by kernel_rfl
theorem cells_row4 : Tryz.prog.cellsOf 33 = 1 := by kernel_rfl
theorem cells_row5 : Tryz.prog.cellsOf 22 = 1 := by kernel_rfl
theorem cells_row6 : Tryz.prog.cellsOf 23 = 1 := by kernel_rfl
theorem cells_row7 : Tryz.prog.cellsOf 32 = 1 := by kernel_rfl
section
variable {H : Type} {enc : TypeId × Value → H} {w : World} {base : Nat} {spare : Nat → Bool} {held : Bool}
end
end Go.Proofs.YtggfnbnochmkdaaGreat
