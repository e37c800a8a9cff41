/- The reference: an automaton's states. -/
import Derived.Test.YtggfnbnochmkdaaGreatZc
namespace Go.Proofs.YtggfnbnochmkdaaGreat
open Go Go.RowKit Go.Lib Go.Proofs.YtggfnbnochmkdaaGreatW.PrintWords Go.Proofs.YtggfnbnochmkdaaGreat.PScope
set_option maxRecDepth 100000
set_option linter.unusedSimpArgs false
set_option linter.unusedVariables false
def zone (q : S44) : Bool := (q.f0.length : Int) == 1
def zst (nms first : List ByteArray) (s : S65) : Bool := s.f1.all zone && ((s.f1.map nm).all (inB first) && ((((s.f1.map nm).length : Int) == (first.length : Int)) && (unlikeB (s.f1.map nm) && s.f2.all (fun y => inB nms y.f1))))
def zfree (es : List S38) (early : List ByteArray) (s : S65) : Bool := !(conR es s.f0).2.2 && !inB early s.f0
def zaut (es : List S38) (early first : List ByteArray) (x : S47) : Bool := x.f1.all (zfree es early) && (unlikeB (stNames x) && x.f1.all (zst (stNames x) first))
theorem map_snoc {α β : Type} (f : α → β) (l : List α) (z : α) (k : Nat) (h : k < l.length) : (l.take (k + 1)).map f = (l.take k).map f ++ [f (l.getD k z)] := by
 rw [List.take_add_one, List.getD_eq_getElem?_getD, List.getElem?_eq_getElem h, List.map_append]; rfl
theorem lit_s {W : World} {g : Nat} {v : ByteArray} (h : W.heap[g]? = some (.cells #[.string v] 9 (0, 0))) : Kd.string.C W (some ⟨g, 0, none⟩) 1 [v] := by
 refine ⟨rfl, by decide, fun _ => ⟨_, rfl, fun j q hj => ?_⟩⟩
 cases j with
 | succ j => simp at hj
 | zero =>
   obtain rfl : v = q := by simpa using hj
   refine ⟨[.string v], rfl, rfl, fun i u hu => ?_⟩
   rw [Nat.zero_mul, Nat.zero_add, add_plain, blk_cell h]
   simpa using hu
set_option maxHeartbeats 16000000 in
theorem zaut_calls (es : List S38) (ns : List S35) (Ae An : Option Addr) (ce cn : Nat) (k b : Nat) (w : World) (he : k38.C w Ae es.length es) (hce : es.length ≤ ce) (hn : k35.C w An ns.length ns) (hcn : ns.length ≤ cn) (hk : k < ns.length) (n : S35) (hnk : ns.getD k z35 = n) (hb : b < n.f4.length) (x : S47) (hxb : n.f4.getD b z47 = x) (hil : ∀ n, n ∈ ns → n.f4.length ≤ 9223372036854775807 ∧ ∀ x, x ∈ n.f4 → x.f1.length ≤ 9223372036854775807) (hsl : (statesL ns k b).length ≤ 1048576) (hdl : (definesL x).length ≤ 1048576) (hxl : x.f1.length ≤ 1048576) (hel : ∀ i, i < x.f1.length → (x.f1.getD i z65).f1.length ≤ 1048576) (hx0 : x.f1.length ≠ 0) :
   Calls Tryz.prog 58 #[.agg #[.slice Ae es.length ce, .slice An ns.length cn], .int .i64 (k : Int), .int .i64 (b : Int)] w fun e w' => e = .returned (.bool (zaut es (statesL ns k b) (definesL x) x)) ∧ Below w.heap.size w w' := by
 have HE := Aside0.mk he; have HCE := Aside0.mk hce; have HN := Aside0.mk hn; have HCN := Aside0.mk hcn; have HB := Aside0.mk (Below.refl w.heap.size w)
 have HSL := Aside0.mk hsl; have HDL := Aside0.mk hdl; have HXL := Aside0.mk hxl; have HEL := Aside0.mk hel; have HIL := Aside0.mk hil; have HKL := Aside0.mk hk
 have hkz : (k : Int) < (ns.length : Int) := by omega
 have hbz : (b : Int) < (n.f4.length : Int) := by omega
 have hu1 := Tryz.underlying25; have hu2 := Tryz.underlying35; have hu3 := Tryz.underlying47; have hu4 := Tryz.underlying65; have hu5 := Tryz.underlying44
 have HU := Aside0.mk Tryz.underlying32
 clear he hce hn hcn hsl hdl hxl hel hil hx0
 obtain ⟨nad, ncs, rfl, _, nK, ncc⟩ := Kd.C_get HN.out z35 (k : Int) (by omega) (by omega)
 have nK' := nK
 obtain ⟨nA1, nc1, nA2, nc2, nA3, nc3, nA4, nc4, rfl, nl1, ng1, nl2, ng2, nl3, ng3, nl4, ng4⟩ := k35_open nK'
 have nx0 := (HB.out.cell (World.block_lt_of_cell? w _ (ncc 0 _ rfl))).trans (ncc 0 _ rfl)
 have nx1 := (HB.out.cell (World.block_lt_of_cell? w _ (ncc 1 _ rfl))).trans (ncc 1 _ rfl)
 have nx2 := (HB.out.cell (World.block_lt_of_cell? w _ (ncc 2 _ rfl))).trans (ncc 2 _ rfl)
 have nx3 := (HB.out.cell (World.block_lt_of_cell? w _ (ncc 3 _ rfl))).trans (ncc 3 _ rfl)
 have nx4 := (HB.out.cell (World.block_lt_of_cell? w _ (ncc 4 _ rfl))).trans (ncc 4 _ rfl)
 rw [show (k35).sz = 5 from rfl, Nat.add_zero, Int.toNat_natCast] at nx0
 rw [show (k35).sz = 5 from rfl, Int.toNat_natCast, add_field _ _ 1 (by omega)] at nx1
 rw [show (k35).sz = 5 from rfl, Int.toNat_natCast, add_field _ _ 2 (by omega)] at nx2
 rw [show (k35).sz = 5 from rfl, Int.toNat_natCast, add_field _ _ 3 (by omega)] at nx3
 rw [show (k35).sz = 5 from rfl, Int.toNat_natCast, add_field _ _ 4 (by omega)] at nx4
 clear ncc
 try simp only [Int.toNat_natCast] at nx0 nx1 nx2 nx3 nx4 nK nl1 ng1 nl2 ng2 nl3 ng3 nl4 ng4
 rw [hnk] at nx0 nx1 nx2 nx3 nx4 nK nl1 ng1 nl2 ng2 nl3 ng3 nl4 ng4
 skip
 have nL1 := Aside0.mk nl1; have nG1 := Aside0.mk ng1; clear nl1 ng1
 have nL2 := Aside0.mk nl2; have nG2 := Aside0.mk ng2; clear nl2 ng2
 have nL3 := Aside0.mk nl3; have nG3 := Aside0.mk ng3; clear nl3 ng3
 have nL4 := Aside0.mk nl4; have nG4 := Aside0.mk ng4; clear nl4 ng4
 obtain ⟨xad, xcs, rfl, _, xK, xcc⟩ := Kd.C_get nG4.out z47 (b : Int) (by omega) (by omega)
 have xK' := xK
 obtain ⟨xA0, xc0, xA4, xc4, xA5, xc5, xA6, xc6, rfl, xl0, xg0, xl4, xg4, xl5, xg5, xl6, xg6⟩ := k47_open xK'
 have xx0 := (HB.out.cell (World.block_lt_of_cell? w _ (xcc 0 _ rfl))).trans (xcc 0 _ rfl)
 have xx1 := (HB.out.cell (World.block_lt_of_cell? w _ (xcc 1 _ rfl))).trans (xcc 1 _ rfl)
 have xx2 := (HB.out.cell (World.block_lt_of_cell? w _ (xcc 2 _ rfl))).trans (xcc 2 _ rfl)
 have xx3 := (HB.out.cell (World.block_lt_of_cell? w _ (xcc 3 _ rfl))).trans (xcc 3 _ rfl)
 have xx4 := (HB.out.cell (World.block_lt_of_cell? w _ (xcc 4 _ rfl))).trans (xcc 4 _ rfl)
 have xx5 := (HB.out.cell (World.block_lt_of_cell? w _ (xcc 5 _ rfl))).trans (xcc 5 _ rfl)
 have xx6 := (HB.out.cell (World.block_lt_of_cell? w _ (xcc 6 _ rfl))).trans (xcc 6 _ rfl)
 rw [show (k47).sz = 7 from rfl, Nat.add_zero, Int.toNat_natCast] at xx0
 rw [show (k47).sz = 7 from rfl, Int.toNat_natCast, add_field _ _ 1 (by omega)] at xx1
 rw [show (k47).sz = 7 from rfl, Int.toNat_natCast, add_field _ _ 2 (by omega)] at xx2
 rw [show (k47).sz = 7 from rfl, Int.toNat_natCast, add_field _ _ 3 (by omega)] at xx3
 rw [show (k47).sz = 7 from rfl, Int.toNat_natCast, add_field _ _ 4 (by omega)] at xx4
 rw [show (k47).sz = 7 from rfl, Int.toNat_natCast, add_field _ _ 5 (by omega)] at xx5
 rw [show (k47).sz = 7 from rfl, Int.toNat_natCast, add_field _ _ 6 (by omega)] at xx6
 clear xcc
 try simp only [Int.toNat_natCast] at xx0 xx1 xx2 xx3 xx4 xx5 xx6 xK xl0 xg0 xl4 xg4 xl5 xg5 xl6 xg6
 rw [hxb] at xx0 xx1 xx2 xx3 xx4 xx5 xx6 xK xl0 xg0 xl4 xg4 xl5 xg5 xl6 xg6
 skip
 have xL0 := Aside0.mk xl0; have xG0 := Aside0.mk xg0; clear xl0 xg0
 have xL4 := Aside0.mk xl4; have xG4 := Aside0.mk xg4; clear xl4 xg4
 have xL5 := Aside0.mk xl5; have xG5 := Aside0.mk xg5; clear xl5 xg5
 have xL6 := Aside0.mk xl6; have xG6 := Aside0.mk xg6; clear xl6 xg6
 have XK := Aside0.mk xK; clear xK nK
 have hde := fun (W : World) (hB : Below w.heap.size w W) => rdefines_calls x W _ (Kd.K_below _ hB XK.out) (by have := HDL.out; omega)
 have hsc := fun (W : World) (hB : Below w.heap.size w W) => zstates_calls es ns Ae (some nad) ce cn k b HKL.out HIL.out (by have := HSL.out; omega) W (Kd.C_below HE.out hB) HCE.out (Kd.C_below HN.out hB) HCN.out
 have hcn := fun (W : World) (hB : Below w.heap.size w W) (s : ByteArray) => zcon_calls es ns Ae (some nad) ce cn s W (Kd.C_below HE.out hB) HCE.out (Kd.C_below HN.out hB) HCN.out
 generalize hfi : definesL x = first at hde HDL ⊢
 clear hfi
 generalize hea : statesL ns k b = early at hsc HSL ⊢
 clear hea
 go_enter Tryz.func58, Tryz.ntmps58
 go_upto_region 2 with (first | ((with_reducible refine gate_dst (N := 3) rfl ?_); refine box_event ?hg (N := 3) ?hd (cs := #[.slice Ae es.length ce, .slice (some nad) ns.length cn]) (t := 25) ?hr ?_; (case hd => rfl); (case hg => rfl); (case hr => first | (go_simp; done) | (go_simp; rfl)); intro g3 hg_ w_ hbox hb; have B3 := Aside0.mk hbox; have LB3 := Aside0.mk ((by rw [hg_]; exact below_size HB.out) : w.heap.size ≤ g3); replace HB := Aside0.mk (below_step HB.out hb); clear hb hbox hg_; have c3_0 := (blk_cell B3.out 0).trans rfl; have c3_1 := (blk_cell B3.out 1).trans rfl; have hn4 := (HB.out.cell (World.block_lt_of_cell? w _ nx4)).trans nx4; have hx0 := (HB.out.cell (World.block_lt_of_cell? w _ xx0)).trans xx0; have hx1 := (HB.out.cell (World.block_lt_of_cell? w _ xx1)).trans xx1; have hx2 := (HB.out.cell (World.block_lt_of_cell? w _ xx2)).trans xx2; have hx3 := (HB.out.cell (World.block_lt_of_cell? w _ xx3)).trans xx3; have hx4 := (HB.out.cell (World.block_lt_of_cell? w _ xx4)).trans xx4; have hx5 := (HB.out.cell (World.block_lt_of_cell? w _ xx5)).trans xx5; have hx6 := (HB.out.cell (World.block_lt_of_cell? w _ xx6)).trans xx6) | ((with_reducible refine gate_store (t := 47) (p := 7) rfl ?_); refine store_whole rfl rfl 47 _ _ rfl w_.heap.size _ 47 rfl (blk_new _ _) _ rfl rfl rfl (by simp [Value.oneCell']) ?_; intro w2 hb2 hg2; clear c3_0 c3_1 hn4 hx0 hx1 hx2 hx3 hx4 hx5 hx6; replace B3 := Aside0.mk (blk_as B3.out hg2); replace HB := Aside0.mk (below_as HB.out hg2); obtain ⟨g7, hq_⟩ : ∃ g_, g_ = w_.heap.size := ⟨_, rfl⟩; rw [← hq_] at hb2; rw [← hq_]; have B7 := Aside0.mk hb2; clear hb2 hg2 hq_))
 clear nx0 nx1 nx2 nx3 nx4 xx0 xx1 xx2 xx3 xx4 xx5 xx6 hkz hbz
 generalize w2 = w7 at B3 B7 HB ⊢
 have c7_0 := (blk_cell B7.out 0).trans rfl
 have c7_1 := (blk_cell B7.out 1).trans rfl
 have c7_2 := (blk_cell B7.out 2).trans rfl
 have c7_3 := (blk_cell B7.out 3).trans rfl
 have c7_4 := (blk_cell B7.out 4).trans rfl
 have c7_5 := (blk_cell B7.out 5).trans rfl
 have c7_6 := (blk_cell B7.out 6).trans rfl
 go_wp2_with fail
 with_reducible refine (hde _ HB.out).mono ?_
 rintro e w8 ⟨A8, c8, rfl, h8c, h8, hb_⟩
 have H8C := Aside0.mk h8c; have H8 := Aside0.mk h8
 replace B3 := Aside0.mk (below_blk B3.out hb_); replace B7 := Aside0.mk (below_blk B7.out hb_); replace HB := Aside0.mk (below_step HB.out hb_)
 clear h8c h8 hb_ hde
 clear c7_0 c7_1 c7_2 c7_3 c7_4 c7_5 c7_6
 have c3_0 := (blk_cell B3.out 0).trans rfl
 have c3_1 := (blk_cell B3.out 1).trans rfl
 go_wp2_with fail
 with_reducible refine (hsc _ HB.out).mono ?_
 rintro e w9 ⟨A9, c9, rfl, h9c, h9, hb_⟩
 have H9C := Aside0.mk h9c; have H9 := Aside0.mk h9
 replace H8 := Aside0.mk (Kd.C_below H8.out hb_)
 replace B3 := Aside0.mk (below_blk B3.out hb_); replace B7 := Aside0.mk (below_blk B7.out hb_); replace HB := Aside0.mk (below_step HB.out hb_)
 clear h9c h9 hb_ hsc c3_0 c3_1
 go_wp2_with fail
 have HK := Aside0.mk (Below.refl w9.heap.size w9)
 go_loopg [10, 11] x.f1.length (fun gg s10 s11 wr => ∃ (kk : Nat) (v : Value), kk ≤ x.f1.length ∧ x.f1.length - kk ≤ gg ∧ s11 = .int .i64 kk ∧ s10 = v ∧ Aside0 (Below w9.heap.size w9 wr) ∧ Aside0 (Kd.string.R 9 wr w9.heap.size (fun _ => True) v ((x.f1.take kk).map (fun s => s.f0))) ∧ Aside0 (∀ j, j < kk → zfree es early (x.f1.getD j z65) = true))
 case atStart => exact ⟨0, _, Nat.zero_le _, by omega, rfl, rfl, HK, ⟨Kd.R_nil _ _ _ _ _⟩, ⟨fun j hj => absurd hj (Nat.not_lt_zero _)⟩⟩
 case round =>
   clear HK
   obtain ⟨kk, v, hkk, hg, rfl, rfl, HK, HO, NA⟩ := hrel
   have hmx : x.f1.length ≤ 9223372036854775807 := (xG6.out).2.1
   have HBr := Aside0.mk (below_step HB.out HK.out)
   by_cases hlt : kk < x.f1.length
   · have hltz : (kk : Int) < (x.f1.length : Int) := by omega
     have hsn := map_snoc (fun s : S65 => s.f0) x.f1 z65 kk hlt
     obtain ⟨sad, scs, hs_, _, sK, scc⟩ := Kd.C_get xG6.out z65 (kk : Int) (by omega) (by omega)
     subst hs_; have sK' := sK
     obtain ⟨sA1, sc1, sA2, sc2, rfl, sl1, sg1, sl2, sg2⟩ := k65_open sK'
     have sx0 := (HBr.out.cell (World.block_lt_of_cell? w _ (scc 0 _ rfl))).trans (scc 0 _ rfl)
     have sx1 := (HBr.out.cell (World.block_lt_of_cell? w _ (scc 1 _ rfl))).trans (scc 1 _ rfl)
     have sx2 := (HBr.out.cell (World.block_lt_of_cell? w _ (scc 2 _ rfl))).trans (scc 2 _ rfl)
     rw [show (k65).sz = 3 from rfl, Nat.add_zero, Int.toNat_natCast] at sx0
     rw [show (k65).sz = 3 from rfl, Int.toNat_natCast, add_field _ _ 1 (by omega)] at sx1
     rw [show (k65).sz = 3 from rfl, Int.toNat_natCast, add_field _ _ 2 (by omega)] at sx2
     clear scc
     try simp only [Int.toNat_natCast] at sx0 sx1 sx2 sK sl1 sg1 sl2 sg2
     generalize Ys0 : x.f1.getD kk z65 = s at hsn sx0 sx1 sx2 sK sl1 sg1 sl2 sg2
     have Ys := Aside0.mk Ys0; clear Ys0
     have HSN := Aside0.mk hsn; clear hsn sK
     clear sl1 sg1 sl2 sg2
     obtain ⟨Ao, co, rfl⟩ := Kd.R_slice HO.out
     generalize hpre : (x.f1.take kk).map (fun s => s.f0) = pre at HO HSN ⊢
     have HPL := Aside0.mk (show pre.length ≤ 1048576 by rw [← hpre, List.length_map, List.length_take]; have := HXL.out; omega)
     clear hpre
     have B3x := Aside0.mk (below_blk B3.out HK.out)
     have B7x := Aside0.mk (below_blk B7.out HK.out)
     have c3_0 := (blk_cell B3x.out 0).trans rfl
     have c3_1 := (blk_cell B3x.out 1).trans rfl
     have c7_0 := (blk_cell B7x.out 0).trans rfl
     have c7_1 := (blk_cell B7x.out 1).trans rfl
     have c7_2 := (blk_cell B7x.out 2).trans rfl
     have c7_3 := (blk_cell B7x.out 3).trans rfl
     have c7_4 := (blk_cell B7x.out 4).trans rfl
     have c7_5 := (blk_cell B7x.out 5).trans rfl
     have c7_6 := (blk_cell B7x.out 6).trans rfl
     go_upto_region 9 with (at_builtin; refine Kd.R_append_rows Kd.string (w0 := w9) w9.heap.size rfl _ _ 32 9 (.string ⟨#[]⟩) 16 rfl HU.out info9 rfl (by decide) (by omega) (.slice Ao pre.length co) pre [s.f0] (some ⟨_, 0, none⟩) 1 1 (fun _ => True) (fun _ => False) rfl rfl ?aO ?aR (fun _ _ h => h) (fun _ h => h.elim) ?aF ?aB ?aS ?aL ?_; (case aO => exact Kd.R_below HO.out (below_alloc (Below.refl _ _) _)); (case aR => exact lit_s (blk_new _ _)); (case aF => exact (fun _ _ => trivial)); (case aB => exact below_alloc HK.out _); (case aS => exact (below_alloc HK.out _).size); (case aL => have h_ := HPL.out; omega); intro v1 w6 ho_ hb_ hg_ hat_; have HO6 := Aside0.mk ho_; have HK6 := Aside0.mk hb_; clear ho_ hb_ hg_ hat_)
     clear c3_0 c3_1 c7_0 c7_1 c7_2 c7_3 c7_4 c7_5 c7_6
     clear HO HK B3x B7x HBr sx0 sx1 sx2
     have HK := HK6; have HO := HO6; clear HK6 HO6
     have HBr := Aside0.mk (below_step HB.out HK.out)
     obtain ⟨sad, scs, hs_, _, sK, scc⟩ := Kd.C_get xG6.out z65 (kk : Int) (by omega) (by omega)
     obtain rfl := (Option.some.inj hs_).symm; clear hs_; have sK' := sK
     obtain ⟨sA1, sc1, sA2, sc2, rfl, sl1, sg1, sl2, sg2⟩ := k65_open sK'
     have sx0 := (HBr.out.cell (World.block_lt_of_cell? w _ (scc 0 _ rfl))).trans (scc 0 _ rfl)
     have sx1 := (HBr.out.cell (World.block_lt_of_cell? w _ (scc 1 _ rfl))).trans (scc 1 _ rfl)
     have sx2 := (HBr.out.cell (World.block_lt_of_cell? w _ (scc 2 _ rfl))).trans (scc 2 _ rfl)
     rw [show (k65).sz = 3 from rfl, Nat.add_zero, Int.toNat_natCast] at sx0
     rw [show (k65).sz = 3 from rfl, Int.toNat_natCast, add_field _ _ 1 (by omega)] at sx1
     rw [show (k65).sz = 3 from rfl, Int.toNat_natCast, add_field _ _ 2 (by omega)] at sx2
     clear scc
     try simp only [Int.toNat_natCast] at sx0 sx1 sx2 sK sl1 sg1 sl2 sg2
     rw [Ys.out] at sx0 sx1 sx2 sK sl1 sg1 sl2 sg2
     clear sK sl1 sg1 sl2 sg2
     have B3x := Aside0.mk (below_blk B3.out HK.out)
     have B7x := Aside0.mk (below_blk B7.out HK.out)
     have c3_0 := (blk_cell B3x.out 0).trans rfl
     have c3_1 := (blk_cell B3x.out 1).trans rfl
     have c7_0 := (blk_cell B7x.out 0).trans rfl
     have c7_1 := (blk_cell B7x.out 1).trans rfl
     have c7_2 := (blk_cell B7x.out 2).trans rfl
     have c7_3 := (blk_cell B7x.out 3).trans rfl
     have c7_4 := (blk_cell B7x.out 4).trans rfl
     have c7_5 := (blk_cell B7x.out 5).trans rfl
     have c7_6 := (blk_cell B7x.out 6).trans rfl
     go_cut [14] from 51 to 62 (fun s_ wx => s_ = .bool (conR es s.f0).2.2 ∧ Aside0 (Below w9.heap.size w9 wx) ∧ Aside0 (Kd.string.R 9 wx w9.heap.size (fun _ => True) v1 (pre ++ [s.f0])))
     case first =>
       go_region_with (with_reducible refine (hcn _ (below_drew1 HBr.out) s.f0).mono ?_; rintro e w10 ⟨rfl, hb_⟩; have HK_ := Aside0.mk (below_step (below_drew1 HK.out) hb_); have HO_ := Aside0.mk (Kd.R_below (Kd.R_below HO.out (below_drew1 (Below.refl _ _))) hb_); clear hb_)
       all_goals
         go_wp2_with fail
         go_meet
         case rel => exact ⟨rfl, HK_, HO_⟩
     case rest =>
       clear HK HO HBr B3x B7x sx0 sx1 sx2
       clear c3_0 c3_1 c7_0 c7_1 c7_2 c7_3 c7_4 c7_5 c7_6
       obtain ⟨rfl, HK, HO⟩ := hcut
       have HBr := Aside0.mk (below_step HB.out HK.out)
       have HZ := Aside0.mk (show zfree es early s = (!(conR es s.f0).2.2 && !inB early s.f0) from rfl)
       generalize (conR es s.f0).2.2 = q at HZ ⊢
       cases q with
       | true =>
         go_wp2_with fail
         go_ret
         exact ⟨by unfold zaut; rw [all_getD_no x.f1 (zfree es early) z65 kk hlt (by rw [Ys.out, HZ.out]; rfl)]; rfl, HBr.out⟩
       | false =>
       obtain ⟨sad, scs, hs_, _, sK, scc⟩ := Kd.C_get xG6.out z65 (kk : Int) (by omega) (by omega)
       obtain rfl := (Option.some.inj hs_).symm; clear hs_; have sK' := sK
       obtain ⟨sA1, sc1, sA2, sc2, rfl, sl1, sg1, sl2, sg2⟩ := k65_open sK'
       have sx0 := (HBr.out.cell (World.block_lt_of_cell? w _ (scc 0 _ rfl))).trans (scc 0 _ rfl)
       have sx1 := (HBr.out.cell (World.block_lt_of_cell? w _ (scc 1 _ rfl))).trans (scc 1 _ rfl)
       have sx2 := (HBr.out.cell (World.block_lt_of_cell? w _ (scc 2 _ rfl))).trans (scc 2 _ rfl)
       rw [show (k65).sz = 3 from rfl, Nat.add_zero, Int.toNat_natCast] at sx0
       rw [show (k65).sz = 3 from rfl, Int.toNat_natCast, add_field _ _ 1 (by omega)] at sx1
       rw [show (k65).sz = 3 from rfl, Int.toNat_natCast, add_field _ _ 2 (by omega)] at sx2
       clear scc
       try simp only [Int.toNat_natCast] at sx0 sx1 sx2 sK sl1 sg1 sl2 sg2
       rw [Ys.out] at sx0 sx1 sx2 sK sl1 sg1 sl2 sg2
       clear sK sl1 sg1 sl2 sg2
       have B3x := Aside0.mk (below_blk B3.out HK.out)
       have B7x := Aside0.mk (below_blk B7.out HK.out)
       have c3_0 := (blk_cell B3x.out 0).trans rfl
       have c3_1 := (blk_cell B3x.out 1).trans rfl
       have c7_0 := (blk_cell B7x.out 0).trans rfl
       have c7_1 := (blk_cell B7x.out 1).trans rfl
       have c7_2 := (blk_cell B7x.out 2).trans rfl
       have c7_3 := (blk_cell B7x.out 3).trans rfl
       have c7_4 := (blk_cell B7x.out 4).trans rfl
       have c7_5 := (blk_cell B7x.out 5).trans rfl
       have c7_6 := (blk_cell B7x.out 6).trans rfl
       have hhas := fun (W : World) (hB : Below w9.heap.size w9 W) => zhas_below A9 c9 early s.f0 W (Kd.C_below H9.out hB) H9C.out (by have := HSL.out; omega)
       generalize inB early s.f0 = q2 at hhas HZ
       go_wp2_with fail
       with_reducible refine (hhas _ HK.out).mono ?_
       rintro e w11 ⟨rfl, hb_⟩
       replace HK := Aside0.mk (below_step HK.out hb_); replace HO := Aside0.mk (Kd.R_below HO.out hb_)
       clear hb_ hhas HBr B3x B7x sx0 sx1 sx2
       clear c3_0 c3_1 c7_0 c7_1 c7_2 c7_3 c7_4 c7_5 c7_6
       cases q2 with
       | true =>
         go_wp2_with fail
         go_ret
         exact ⟨by unfold zaut; rw [all_getD_no x.f1 (zfree es early) z65 kk hlt (by rw [Ys.out, HZ.out]; rfl)]; rfl, below_step HB.out HK.out⟩
       | false =>
         go_wp2_with fail
         go_roundg (x.f1.length - (kk + 1))
         case measure => omega
         case rel => exact ⟨kk + 1, _, by omega, by omega, by go_num, rfl, HK, ⟨by rw [HSN.out]; exact HO.out⟩, ⟨zupto_step (P := zfree es early) NA.out Ys.out (by rw [HZ.out]; rfl)⟩⟩
   · have hltz : ¬ (kk : Int) < (x.f1.length : Int) := by omega
     obtain rfl : kk = x.f1.length := by omega
     have ho := HO.out
     rw [List.take_length] at ho
     obtain ⟨A10, c10, rfl, h10c, h10⟩ := Kd.R_reads ho
     have HF1 := Aside0.mk (all_getD x.f1 (zfree es early) z65 NA.out)
     have HF := Aside0.mk (show zaut es early first x = (unlikeB (stNames x) && x.f1.all (zst (stNames x) first)) by unfold zaut; rw [HF1.out]; rfl)
     have HNL := Aside0.mk (show (stNames x).length ≤ 1048576 by unfold stNames; rw [List.length_map]; exact HXL.out)
     rw [show x.f1.map (fun s => s.f0) = stNames x from rfl] at h10c h10 ⊢
     have H10C := Aside0.mk h10c; have H10 := Aside0.mk h10
     clear ho h10c h10 HO NA HF1 hg hkk hltz hlt
     generalize stNames x = nms at H10C H10 HF HNL ⊢
     replace B7 := Aside0.mk (below_blk B7.out HK.out); replace H8 := Aside0.mk (Kd.C_below H8.out HK.out); replace HB := Aside0.mk (below_step HB.out HK.out)
     clear HK HBr H9 H9C B3 hcn
     have hun := fun (W : World) (hB : Below wr.heap.size wr W) => zunlike_calls A10 c10 nms W (Kd.C_below H10.out hB) H10C.out (by have := HNL.out; omega)
     generalize unlikeB nms = q1 at HF hun
     have c7_0 := (blk_cell B7.out 0).trans rfl
     have c7_1 := (blk_cell B7.out 1).trans rfl
     have c7_2 := (blk_cell B7.out 2).trans rfl
     have c7_3 := (blk_cell B7.out 3).trans rfl
     have c7_4 := (blk_cell B7.out 4).trans rfl
     have c7_5 := (blk_cell B7.out 5).trans rfl
     have c7_6 := (blk_cell B7.out 6).trans rfl
     go_wp2_with fail
     with_reducible refine (hun _ (Below.refl _ _)).mono ?_
     rintro e w12 ⟨rfl, hb_⟩
     replace B7 := Aside0.mk (below_blk B7.out hb_); replace H8 := Aside0.mk (Kd.C_below H8.out hb_); replace H10 := Aside0.mk (Kd.C_below H10.out hb_); replace HB := Aside0.mk (below_step HB.out hb_)
     clear hb_ hun c7_0 c7_1 c7_2 c7_3 c7_4 c7_5 c7_6
     cases q1 with
     | false =>
       go_wp2_with fail
       go_ret
       exact ⟨by rw [HF.out]; rfl, HB.out⟩
     | true =>
     have HF2 := Aside0.mk (show zaut es early first x = x.f1.all (zst nms first) by rw [HF.out]; rfl)
     clear HF
     go_wp2_with fail
     have HK := Aside0.mk (Below.refl w12.heap.size w12)
     go_loopg [15] x.f1.length (fun gg s_ wr => ∃ (kka : Nat), kka ≤ x.f1.length ∧ x.f1.length - kka ≤ gg ∧ s_ = .int .i64 kka ∧ Aside0 (Below w12.heap.size w12 wr) ∧ Aside0 (∀ j, j < kka → zst nms first (x.f1.getD j z65) = true))
     case atStart => exact ⟨0, Nat.zero_le _, by omega, rfl, HK, ⟨fun j hj => absurd hj (Nat.not_lt_zero _)⟩⟩
     case round =>
       clear HK
       obtain ⟨kka, hkka, hgkka, rfl, HK, Na⟩ := hrel
       have hmxa : x.f1.length ≤ 9223372036854775807 := (xG6.out).2.1
       by_cases hlta : kka < x.f1.length
       · have hltza : (kka : Int) < (x.f1.length : Int) := by omega
         have hel := HEL.out kka hlta
         have HBr := Aside0.mk (below_step HB.out HK.out)
         obtain ⟨sad, scs, hs_, _, sK, scc⟩ := Kd.C_get xG6.out z65 (kka : Int) (by omega) (by omega)
         subst hs_; have sK' := sK
         obtain ⟨sA1, sc1, sA2, sc2, rfl, sl1, sg1, sl2, sg2⟩ := k65_open sK'
         have sx0 := (HBr.out.cell (World.block_lt_of_cell? w _ (scc 0 _ rfl))).trans (scc 0 _ rfl)
         have sx1 := (HBr.out.cell (World.block_lt_of_cell? w _ (scc 1 _ rfl))).trans (scc 1 _ rfl)
         have sx2 := (HBr.out.cell (World.block_lt_of_cell? w _ (scc 2 _ rfl))).trans (scc 2 _ rfl)
         rw [show (k65).sz = 3 from rfl, Nat.add_zero, Int.toNat_natCast] at sx0
         rw [show (k65).sz = 3 from rfl, Int.toNat_natCast, add_field _ _ 1 (by omega)] at sx1
         rw [show (k65).sz = 3 from rfl, Int.toNat_natCast, add_field _ _ 2 (by omega)] at sx2
         clear scc
         try simp only [Int.toNat_natCast] at sx0 sx1 sx2 sK sl1 sg1 sl2 sg2
         generalize Ys0 : x.f1.getD kka z65 = s at hel sx0 sx1 sx2 sK sl1 sg1 sl2 sg2
         have Ys := Aside0.mk Ys0; clear Ys0
         have sL1 := Aside0.mk sl1; have sG1 := Aside0.mk sg1; clear sl1 sg1
         have sL2 := Aside0.mk sl2; have sG2 := Aside0.mk sg2; clear sl2 sg2
         have HES := Aside0.mk hel; clear hel sK
         have B7x := Aside0.mk (below_blk B7.out HK.out)
         have c7_0 := (blk_cell B7x.out 0).trans rfl
         have c7_1 := (blk_cell B7x.out 1).trans rfl
         have c7_2 := (blk_cell B7x.out 2).trans rfl
         have c7_3 := (blk_cell B7x.out 3).trans rfl
         have c7_4 := (blk_cell B7x.out 4).trans rfl
         have c7_5 := (blk_cell B7x.out 5).trans rfl
         have c7_6 := (blk_cell B7x.out 6).trans rfl
         go_wp2_with fail
         clear sx0 sx1 sx2 HBr B7x c7_0 c7_1 c7_2 c7_3 c7_4 c7_5 c7_6
         go_loopg [16, 17] s.f1.length (fun gg s16 s17 wr => ∃ (kk : Nat) (v16 : Value), kk ≤ s.f1.length ∧ s.f1.length - kk ≤ gg ∧ s17 = .int .i64 kk ∧ s16 = v16 ∧ Aside0 (Below w12.heap.size w12 wr) ∧ Aside0 (Kd.string.R 9 wr w12.heap.size (fun _ => True) v16 ((s.f1.take kk).map nm)) ∧ Aside0 (∀ j, j < kk → zone (s.f1.getD j z44) = true))
         case atStart => exact ⟨0, _, Nat.zero_le _, by omega, rfl, rfl, HK, ⟨Kd.R_nil _ _ _ _ _⟩, ⟨fun j hj => absurd hj (Nat.not_lt_zero _)⟩⟩
         case round =>
           clear HK
           obtain ⟨kk, v16, hkk, hg, rfl, rfl, HK, HO, NB⟩ := hrel
           have hmx : s.f1.length ≤ 9223372036854775807 := (sG1.out).2.1
           have HBr := Aside0.mk (below_step HB.out HK.out)
           obtain ⟨rad, rcs, hs_, _, rK, rcc⟩ := Kd.C_get xG6.out z65 (kka : Int) (by omega) (by omega)
           obtain rfl := (Option.some.inj hs_).symm; clear hs_; have rK' := rK
           obtain ⟨rA1, rc1, rA2, rc2, rfl, rl1, rg1, rl2, rg2⟩ := k65_open rK'
           have rx0 := (HBr.out.cell (World.block_lt_of_cell? w _ (rcc 0 _ rfl))).trans (rcc 0 _ rfl)
           have rx1 := (HBr.out.cell (World.block_lt_of_cell? w _ (rcc 1 _ rfl))).trans (rcc 1 _ rfl)
           have rx2 := (HBr.out.cell (World.block_lt_of_cell? w _ (rcc 2 _ rfl))).trans (rcc 2 _ rfl)
           rw [show (k65).sz = 3 from rfl, Nat.add_zero, Int.toNat_natCast] at rx0
           rw [show (k65).sz = 3 from rfl, Int.toNat_natCast, add_field _ _ 1 (by omega)] at rx1
           rw [show (k65).sz = 3 from rfl, Int.toNat_natCast, add_field _ _ 2 (by omega)] at rx2
           clear rcc
           try simp only [Int.toNat_natCast] at rx0 rx1 rx2 rK rl1 rg1 rl2 rg2
           rw [Ys.out] at rx0 rx1 rx2 rK rl1 rg1 rl2 rg2
           clear rK
           have rL1 := Aside0.mk rl1; have rG1 := Aside0.mk rg1; clear rl1 rg1
           have rL2 := Aside0.mk rl2; have rG2 := Aside0.mk rg2; clear rl2 rg2
           have B7x := Aside0.mk (below_blk B7.out HK.out)
           have c7_0 := (blk_cell B7x.out 0).trans rfl
           have c7_1 := (blk_cell B7x.out 1).trans rfl
           have c7_2 := (blk_cell B7x.out 2).trans rfl
           have c7_3 := (blk_cell B7x.out 3).trans rfl
           have c7_4 := (blk_cell B7x.out 4).trans rfl
           have c7_5 := (blk_cell B7x.out 5).trans rfl
           have c7_6 := (blk_cell B7x.out 6).trans rfl
           by_cases hlt : kk < s.f1.length
           · have hltz : (kk : Int) < (s.f1.length : Int) := by omega
             have hsn := map_snoc nm s.f1 z44 kk hlt
             obtain ⟨qad, qcs, hq_, _, qK, qcc⟩ := Kd.C_get rG1.out z44 (kk : Int) (by omega) (by omega)
             subst hq_; have qK' := qK
             obtain ⟨qA0, qc0, qA4, qc4, qA5, qc5, rfl, ql0, qg0, ql4, qg4, ql5, qg5⟩ := k44_open qK'
             have qx0 := (HBr.out.cell (World.block_lt_of_cell? w _ (qcc 0 _ rfl))).trans (qcc 0 _ rfl)
             have qx1 := (HBr.out.cell (World.block_lt_of_cell? w _ (qcc 1 _ rfl))).trans (qcc 1 _ rfl)
             have qx2 := (HBr.out.cell (World.block_lt_of_cell? w _ (qcc 2 _ rfl))).trans (qcc 2 _ rfl)
             have qx3 := (HBr.out.cell (World.block_lt_of_cell? w _ (qcc 3 _ rfl))).trans (qcc 3 _ rfl)
             have qx4 := (HBr.out.cell (World.block_lt_of_cell? w _ (qcc 4 _ rfl))).trans (qcc 4 _ rfl)
             have qx5 := (HBr.out.cell (World.block_lt_of_cell? w _ (qcc 5 _ rfl))).trans (qcc 5 _ rfl)
             rw [show (k44).sz = 6 from rfl, Nat.add_zero, Int.toNat_natCast] at qx0
             rw [show (k44).sz = 6 from rfl, Int.toNat_natCast, add_field _ _ 1 (by omega)] at qx1
             rw [show (k44).sz = 6 from rfl, Int.toNat_natCast, add_field _ _ 2 (by omega)] at qx2
             rw [show (k44).sz = 6 from rfl, Int.toNat_natCast, add_field _ _ 3 (by omega)] at qx3
             rw [show (k44).sz = 6 from rfl, Int.toNat_natCast, add_field _ _ 4 (by omega)] at qx4
             rw [show (k44).sz = 6 from rfl, Int.toNat_natCast, add_field _ _ 5 (by omega)] at qx5
             clear qcc
             try simp only [Int.toNat_natCast] at qx0 qx1 qx2 qx3 qx4 qx5 qK ql0 qg0 ql4 qg4 ql5 qg5
             generalize Yq0 : s.f1.getD kk z44 = q at hsn qx0 qx1 qx2 qx3 qx4 qx5 qK ql0 qg0 ql4 qg4 ql5 qg5
             have Yq := Aside0.mk Yq0; clear Yq0
             have HSN := Aside0.mk hsn; clear hsn qK
             have HQL := Aside0.mk ql0; have HQG := Aside0.mk qg0; clear ql0 qg0 ql4 qg4 ql5 qg5
             by_cases e1 : q.f0.length ≠ 1
             · have t1 : (((q.f0.length : Int)) != 1) = true := by rw [bne, beq_eq_false_iff_ne.2 (by omega)]; rfl
               have HZ := Aside0.mk (show zone q = false from beq_eq_false_iff_ne.2 (by omega))
               clear e1
               go_wp2_with fail
               go_ret
               exact ⟨by rw [HF2.out, all_getD_no x.f1 (zst nms first) z65 kka hlta (by rw [Ys.out]; unfold zst; rw [all_getD_no s.f1 zone z44 kk hlt (by rw [Yq.out]; exact HZ.out)]; rfl)]; rfl, HBr.out⟩
             replace e1 : q.f0.length = 1 := by omega
             have t1 : (((q.f0.length : Int)) != 1) = false := by rw [e1]; rfl
             have HZ := Aside0.mk (show zone q = true by unfold zone; rw [e1]; rfl)
             have hqp : (0 : Int) < (q.f0.length : Int) := by omega
             have hqp2 : 0 < q.f0.length := by omega
             obtain ⟨aad, acs, ha_, _, aK, acc⟩ := Kd.C_get HQG.out (⟨#[]⟩ : ByteArray) ((0 : Nat) : Int) (by omega) (by omega)
             obtain rfl := aK
             subst ha_
             have ax0 := (HBr.out.cell (World.block_lt_of_cell? w _ (acc 0 _ rfl))).trans (acc 0 _ rfl)
             simp only [show Kd.string.sz = 1 from rfl, Nat.mul_one, Nat.add_zero, Int.toNat_natCast] at ax0
             clear acc
             try simp only [Int.toNat_natCast] at ax0
             generalize Ya0 : q.f0.getD 0 (⟨#[]⟩ : ByteArray) = a at ax0
             have Ya := Aside0.mk Ya0; clear Ya0
             try simp only [Nat.zero_mul, add_zero'] at ax0
             have HNM := Aside0.mk (show nm q = a from Ya.out)
             have HSN2 := Aside0.mk (show (s.f1.take (kk + 1)).map nm = (s.f1.take kk).map nm ++ [a] by rw [HSN.out, HNM.out])
             clear HSN e1
             obtain ⟨Ao, co, rfl⟩ := Kd.R_slice HO.out
             generalize hpre : (s.f1.take kk).map nm = pre at HO HSN2 ⊢
             have HPL := Aside0.mk (show pre.length ≤ 1048576 by rw [← hpre, List.length_map, List.length_take]; have := HES.out; omega)
             clear hpre
             go_wp2_with (at_builtin; refine Kd.R_append_rows Kd.string (w0 := w12) w12.heap.size rfl _ _ 32 9 (.string ⟨#[]⟩) 16 rfl HU.out info9 rfl (by decide) (by omega) (.slice Ao pre.length co) pre [a] (some ⟨_, 0, none⟩) 1 1 (fun _ => True) (fun _ => False) rfl rfl ?aO ?aR (fun _ _ h => h) (fun _ h => h.elim) ?aF ?aB ?aS ?aL ?_; (case aO => exact Kd.R_below HO.out (below_alloc (Below.refl _ _) _)); (case aR => exact lit_s (blk_new _ _)); (case aF => exact (fun _ _ => trivial)); (case aB => exact below_alloc HK.out _); (case aS => exact (below_alloc HK.out _).size); (case aL => have h_ := HPL.out; omega); intro v1 w6 ho_ hb_ hg_ hat_; have HO6 := Aside0.mk ho_; have HK6 := Aside0.mk hb_; clear ho_ hb_ hg_ hat_)
             go_roundg (s.f1.length - (kk + 1))
             case measure => omega
             case rel => exact ⟨kk + 1, _, by omega, by omega, by go_num, rfl, HK6, ⟨by rw [HSN2.out]; exact HO6.out⟩, ⟨zupto_step (P := zone) NB.out Yq.out HZ.out⟩⟩
           · have hltz : ¬ (kk : Int) < (s.f1.length : Int) := by omega
             obtain rfl : kk = s.f1.length := by omega
             have ho := HO.out
             rw [List.take_length] at ho
             obtain ⟨A16, c16, rfl, h16c, h16⟩ := Kd.R_reads ho
             have HZ1 := Aside0.mk (all_getD s.f1 zone z44 NB.out)
             have HZS := Aside0.mk (show zst nms first s = ((s.f1.map nm).all (inB first) && ((((s.f1.map nm).length : Int) == (first.length : Int)) && (unlikeB (s.f1.map nm) && s.f2.all (fun y => inB nms y.f1)))) by unfold zst; rw [HZ1.out]; rfl)
             have HLL := Aside0.mk (show (s.f1.map nm).length ≤ 1048576 by rw [List.length_map]; exact HES.out)
             have H16C := Aside0.mk h16c; have H16 := Aside0.mk h16
             clear ho h16c h16 HO NB HZ1 hg hkk
             generalize s.f1.map nm = l at H16C H16 HZS HLL ⊢
             go_wp2_with fail
             clear hltz hlt HBr B7x rx0 rx1 rx2 c7_0 c7_1 c7_2 c7_3 c7_4 c7_5 c7_6
             have HL := H16; clear H16
             go_loopg [18] l.length (fun gg s_ wr => ∃ (kkb : Nat), kkb ≤ l.length ∧ l.length - kkb ≤ gg ∧ s_ = .int .i64 kkb ∧ Aside0 (Below w12.heap.size w12 wr) ∧ Aside0 (Kd.string.C wr A16 l.length l) ∧ Aside0 (∀ j, j < kkb → inB first (l.getD j (⟨#[]⟩ : ByteArray)) = true))
             case atStart => exact ⟨0, Nat.zero_le _, by omega, rfl, HK, HL, ⟨fun j hj => absurd hj (Nat.not_lt_zero _)⟩⟩
             case round =>
               clear HK HL
               obtain ⟨kkb, hkkb, hgkkb, rfl, HK, HL, Nb⟩ := hrel
               have hmxb : l.length ≤ 9223372036854775807 := (HL.out).2.1
               by_cases hltb : kkb < l.length
               · have hltzb : (kkb : Int) < (l.length : Int) := by omega
                 obtain ⟨aad, acs, ha_, _, aK, acc⟩ := Kd.C_get HL.out (⟨#[]⟩ : ByteArray) (kkb : Int) (by omega) (by omega)
                 obtain rfl := aK
                 subst ha_
                 have ax0 := ((Below.refl wr.heap.size wr).cell (World.block_lt_of_cell? wr _ (acc 0 _ rfl))).trans (acc 0 _ rfl)
                 simp only [show Kd.string.sz = 1 from rfl, Nat.mul_one, Nat.add_zero, Int.toNat_natCast] at ax0
                 clear acc
                 try simp only [Int.toNat_natCast] at ax0
                 generalize Ya0 : l.getD kkb (⟨#[]⟩ : ByteArray) = a at ax0
                 have Ya := Aside0.mk Ya0; clear Ya0
                 have hhas := fun (W : World) (hB : Below w12.heap.size w12 W) => zhas_below A8 c8 first a W (Kd.C_below H8.out hB) H8C.out (by have := HDL.out; omega)
                 generalize hq0 : inB first a = q at hhas
                 have HQ := Aside0.mk hq0; clear hq0
                 go_wp2_with fail
                 with_reducible refine (hhas _ HK.out).mono ?_
                 rintro e w13 ⟨rfl, hb_⟩
                 replace HL := Aside0.mk (Kd.C_below HL.out hb_); replace HK := Aside0.mk (below_step HK.out hb_)
                 clear hb_ hhas ax0
                 cases q with
                 | false =>
                   go_wp2_with fail
                   go_ret
                   exact ⟨by rw [HF2.out, all_getD_no x.f1 (zst nms first) z65 kka hlta (by rw [Ys.out, HZS.out, all_getD_no l (inB first) (⟨#[]⟩ : ByteArray) kkb hltb (by rw [Ya.out]; exact HQ.out)]; rfl)]; rfl, below_step HB.out HK.out⟩
                 | true =>
                   go_wp2_with fail
                   go_roundg (l.length - (kkb + 1))
                   case measure => omega
                   case rel => exact ⟨kkb + 1, by omega, by omega, by go_num, HK, HL, ⟨zupto_step (P := inB first) Nb.out Ya.out HQ.out⟩⟩
               · have hltzb : ¬ (kkb : Int) < (l.length : Int) := by omega
                 obtain rfl : kkb = l.length := by omega
                 have HA4 := Aside0.mk (all_getD l (inB first) (⟨#[]⟩ : ByteArray) Nb.out)
                 have HZ2 := Aside0.mk (show zst nms first s = (((l.length : Int) == (first.length : Int)) && (unlikeB l && s.f2.all (fun y => inB nms y.f1))) by rw [HZS.out, HA4.out]; rfl)
                 clear HZS HA4 Nb
                 have hun := fun (W : World) (hC : Kd.string.C W A16 l.length l) => zunlike_calls A16 c16 l W hC H16C.out (by have := HLL.out; omega)
                 generalize unlikeB l = q1 at HZ2 hun
                 by_cases e2 : l.length ≠ first.length
                 · have t2 : ((l.length : Int) != (first.length : Int)) = true := by rw [bne, beq_eq_false_iff_ne.2 (by omega)]; rfl
                   have t3 : ((l.length : Int) == (first.length : Int)) = false := beq_eq_false_iff_ne.2 (by omega)
                   have HZ3 := Aside0.mk (show zst nms first s = false by rw [HZ2.out, t3]; rfl)
                   clear e2 t3
                   go_wp2_with fail
                   go_ret
                   exact ⟨by rw [HF2.out, all_getD_no x.f1 (zst nms first) z65 kka hlta (by rw [Ys.out]; exact HZ3.out)]; rfl, below_step HB.out HK.out⟩
                 replace e2 : l.length = first.length := by omega
                 have t2 : ((l.length : Int) != (first.length : Int)) = false := by rw [e2, bne, beq_self_eq_true]; rfl
                 have t3 : ((l.length : Int) == (first.length : Int)) = true := by rw [e2]; exact beq_self_eq_true _
                 have HZ3 := Aside0.mk (show zst nms first s = (q1 && s.f2.all (fun y => inB nms y.f1)) by rw [HZ2.out, t3]; rfl)
                 clear e2 t3 HZ2
                 go_wp2_with fail
                 with_reducible refine (hun _ HL.out).mono ?_
                 rintro e w14 ⟨rfl, hb_⟩
                 replace HK := Aside0.mk (below_step HK.out hb_)
                 clear hb_ hun HL
                 cases q1 with
                 | false =>
                   go_wp2_with fail
                   go_ret
                   exact ⟨by rw [HF2.out, all_getD_no x.f1 (zst nms first) z65 kka hlta (by rw [Ys.out, HZ3.out]; rfl)]; rfl, below_step HB.out HK.out⟩
                 | true =>
                 have HZ4 := Aside0.mk (show zst nms first s = s.f2.all (fun y => inB nms y.f1) by rw [HZ3.out]; rfl)
                 clear HZ3
                 go_wp2_with fail
                 go_loopg [19] s.f2.length (fun gg s_ wr => ∃ kk : Nat, kk ≤ s.f2.length ∧ s.f2.length - kk ≤ gg ∧ s_ = .int .i64 kk ∧ Aside0 (Below w12.heap.size w12 wr) ∧ Aside0 (∀ j, j < kk → (fun y : S93 => inB nms y.f1) (s.f2.getD j z93) = true))
                 case atStart => exact ⟨0, Nat.zero_le _, by omega, rfl, HK, ⟨fun j hj => absurd hj (Nat.not_lt_zero _)⟩⟩
                 case round =>
                   clear HK
                   obtain ⟨kk, hkk, hg, rfl, HK, NC⟩ := hrel
                   have hmx : s.f2.length ≤ 9223372036854775807 := (sG2.out).2.1
                   have HBr := Aside0.mk (below_step HB.out HK.out)
                   obtain ⟨rad, rcs, hs_, _, rK, rcc⟩ := Kd.C_get xG6.out z65 (kka : Int) (by omega) (by omega)
                   obtain rfl := (Option.some.inj hs_).symm; clear hs_; have rK' := rK
                   obtain ⟨rA1, rc1, rA2, rc2, rfl, rl1, rg1, rl2, rg2⟩ := k65_open rK'
                   have rx0 := (HBr.out.cell (World.block_lt_of_cell? w _ (rcc 0 _ rfl))).trans (rcc 0 _ rfl)
                   have rx1 := (HBr.out.cell (World.block_lt_of_cell? w _ (rcc 1 _ rfl))).trans (rcc 1 _ rfl)
                   have rx2 := (HBr.out.cell (World.block_lt_of_cell? w _ (rcc 2 _ rfl))).trans (rcc 2 _ rfl)
                   rw [show (k65).sz = 3 from rfl, Nat.add_zero, Int.toNat_natCast] at rx0
                   rw [show (k65).sz = 3 from rfl, Int.toNat_natCast, add_field _ _ 1 (by omega)] at rx1
                   rw [show (k65).sz = 3 from rfl, Int.toNat_natCast, add_field _ _ 2 (by omega)] at rx2
                   clear rcc
                   try simp only [Int.toNat_natCast] at rx0 rx1 rx2 rK rl1 rg1 rl2 rg2
                   rw [Ys.out] at rx0 rx1 rx2 rK rl1 rg1 rl2 rg2
                   clear rK
                   have rL1 := Aside0.mk rl1; have rG1 := Aside0.mk rg1; clear rl1 rg1
                   have rL2 := Aside0.mk rl2; have rG2 := Aside0.mk rg2; clear rl2 rg2
                   have B7x := Aside0.mk (below_blk B7.out HK.out)
                   have c7_0 := (blk_cell B7x.out 0).trans rfl
                   have c7_1 := (blk_cell B7x.out 1).trans rfl
                   have c7_2 := (blk_cell B7x.out 2).trans rfl
                   have c7_3 := (blk_cell B7x.out 3).trans rfl
                   have c7_4 := (blk_cell B7x.out 4).trans rfl
                   have c7_5 := (blk_cell B7x.out 5).trans rfl
                   have c7_6 := (blk_cell B7x.out 6).trans rfl
                   by_cases hlt : kk < s.f2.length
                   · have hltz : (kk : Int) < (s.f2.length : Int) := by omega
                     obtain ⟨yad, ycs, hy_, _, yK, ycc⟩ := Kd.C_get rG2.out z93 (kk : Int) (by omega) (by omega)
                     subst hy_; have yK' := yK
                     obtain ⟨yA3, yc3, yA4, yc4, rfl, yl3, yg3, yl4, yg4⟩ := k93_open yK'
                     have yx0 := (HBr.out.cell (World.block_lt_of_cell? w _ (ycc 0 _ rfl))).trans (ycc 0 _ rfl)
                     have yx1 := (HBr.out.cell (World.block_lt_of_cell? w _ (ycc 1 _ rfl))).trans (ycc 1 _ rfl)
                     have yx2 := (HBr.out.cell (World.block_lt_of_cell? w _ (ycc 2 _ rfl))).trans (ycc 2 _ rfl)
                     have yx3 := (HBr.out.cell (World.block_lt_of_cell? w _ (ycc 3 _ rfl))).trans (ycc 3 _ rfl)
                     have yx4 := (HBr.out.cell (World.block_lt_of_cell? w _ (ycc 4 _ rfl))).trans (ycc 4 _ rfl)
                     have yx5 := (HBr.out.cell (World.block_lt_of_cell? w _ (ycc 5 _ rfl))).trans (ycc 5 _ rfl)
                     rw [show (k93).sz = 6 from rfl, Nat.add_zero, Int.toNat_natCast] at yx0
                     rw [show (k93).sz = 6 from rfl, Int.toNat_natCast, add_field _ _ 1 (by omega)] at yx1
                     rw [show (k93).sz = 6 from rfl, Int.toNat_natCast, add_field _ _ 2 (by omega)] at yx2
                     rw [show (k93).sz = 6 from rfl, Int.toNat_natCast, add_field _ _ 3 (by omega)] at yx3
                     rw [show (k93).sz = 6 from rfl, Int.toNat_natCast, add_field _ _ 4 (by omega)] at yx4
                     rw [show (k93).sz = 6 from rfl, Int.toNat_natCast, add_field _ _ 5 (by omega)] at yx5
                     clear ycc
                     try simp only [Int.toNat_natCast] at yx0 yx1 yx2 yx3 yx4 yx5 yK yl3 yg3 yl4 yg4
                     generalize Yy0 : s.f2.getD kk z93 = y at yx0 yx1 yx2 yx3 yx4 yx5 yK yl3 yg3 yl4 yg4
                     have Yy := Aside0.mk Yy0; clear Yy0
                     clear yK yl3 yg3 yl4 yg4
                     have hhas := fun (W : World) (hB : Below w12.heap.size w12 W) => zhas_below A10 c10 nms y.f1 W (Kd.C_below H10.out hB) H10C.out (by have := HNL.out; omega)
                     generalize hq0 : inB nms y.f1 = q at hhas
                     have HQ := Aside0.mk hq0; clear hq0
                     go_wp2_with fail
                     with_reducible refine (hhas _ HK.out).mono ?_
                     rintro e w15 ⟨rfl, hb_⟩
                     replace HK := Aside0.mk (below_step HK.out hb_)
                     clear hb_ hhas HBr B7x rx0 rx1 rx2 yx0 yx1 yx2 yx3 yx4 yx5 c7_0 c7_1 c7_2 c7_3 c7_4 c7_5 c7_6
                     cases q with
                     | false =>
                       go_wp2_with fail
                       go_ret
                       exact ⟨by rw [HF2.out, all_getD_no x.f1 (zst nms first) z65 kka hlta (by rw [Ys.out, HZ4.out, all_getD_no s.f2 (fun y => inB nms y.f1) z93 kk hlt (by rw [Yy.out]; exact HQ.out)])]; rfl, below_step HB.out HK.out⟩
                     | true =>
                       go_wp2_with fail
                       go_roundg (s.f2.length - (kk + 1))
                       case measure => omega
                       case rel => exact ⟨kk + 1, by omega, by omega, by go_num, HK, ⟨zupto_step (P := fun y : S93 => inB nms y.f1) NC.out Yy.out HQ.out⟩⟩
                   · have hltz : ¬ (kk : Int) < (s.f2.length : Int) := by omega
                     obtain rfl : kk = s.f2.length := by omega
                     have HA5 := Aside0.mk (all_getD s.f2 (fun y => inB nms y.f1) z93 NC.out)
                     go_wp2_with fail
                     clear HBr B7x rx0 rx1 rx2 c7_0 c7_1 c7_2 c7_3 c7_4 c7_5 c7_6
                     go_roundg (x.f1.length - (kka + 1))
                     case measure => omega
                     case rel => exact ⟨kka + 1, by omega, by omega, by go_num, HK, ⟨zupto_step (P := zst nms first) Na.out Ys.out (by rw [HZ4.out]; exact HA5.out)⟩⟩
       · have hltza : ¬ (kka : Int) < (x.f1.length : Int) := by omega
         obtain rfl : kka = x.f1.length := by omega
         have HA2 := Aside0.mk (all_getD x.f1 (zst nms first) z65 Na.out)
         have B7x := Aside0.mk (below_blk B7.out HK.out)
         have c7_0 := (blk_cell B7x.out 0).trans rfl
         have c7_1 := (blk_cell B7x.out 1).trans rfl
         have c7_2 := (blk_cell B7x.out 2).trans rfl
         have c7_3 := (blk_cell B7x.out 3).trans rfl
         have c7_4 := (blk_cell B7x.out 4).trans rfl
         have c7_5 := (blk_cell B7x.out 5).trans rfl
         have c7_6 := (blk_cell B7x.out 6).trans rfl
         go_wp2_with fail
         go_ret
         exact ⟨by rw [HF2.out, HA2.out]; rfl, below_step HB.out HK.out⟩
end Go.Proofs.YtggfnbnochmkdaaGreat
