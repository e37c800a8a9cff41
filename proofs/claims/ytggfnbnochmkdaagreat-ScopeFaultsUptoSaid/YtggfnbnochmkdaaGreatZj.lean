/- The reference: a node's first fault. -/
import Derived.Test.YtggfnbnochmkdaaGreatZh
import Derived.Test.YtggfnbnochmkdaaGreatZi
namespace Go.Proofs.YtggfnbnochmkdaaGreat
open Go Go.RowKit Go.Lib Go.Proofs.YtggfnbnochmkdaaGreatW.PrintWords Go.Proofs.YtggfnbnochmkdaaGreat.PScope
set_option maxRecDepth 100000
set_option linter.unusedSimpArgs false
set_option linter.unusedVariables false
def nodeF (R : Int × Bool × Mp) (k : Nat) : Int × Int × Int := if R.2.1 = true then (4, (k : Int), R.1) else (0, 0, 0)
structure NodeSz (ns : List S35) (k : Nat) (n : S35) : Prop where
 il : ∀ n, n ∈ ns → n.f4.length ≤ 9223372036854775807 ∧ ∀ x, x ∈ n.f4 → x.f1.length ≤ 9223372036854775807
 sl : ∀ b, b ≤ n.f4.length → (statesL ns k b).length ≤ 1048576
 vl : (varsL n).length ≤ 1048576
 dl : ∀ b, b < n.f4.length → (definesL (n.f4.getD b z47)).length ≤ 1048576 ∧ (n.f4.getD b z47).f1.length ≤ 1048576 ∧ ∀ i, i < (n.f4.getD b z47).f1.length → ((n.f4.getD b z47).f1.getD i z65).f1.length ≤ 1048576
 sz : n.f1.length ≤ 100 ∧ n.f2.length ≤ 100 ∧ n.f3.length ≤ 100
theorem vars_take {n : S35} (b : Nat) : (varsL (partN n.f2 (n.f4.take b))).length ≤ (varsL n).length := by
 show (n.f2 ++ (n.f4.take b).flatMap definesL).length ≤ (n.f2 ++ n.f4.flatMap definesL).length
 rw [List.length_append, List.length_append]
 have := flatMap_take_le n.f4 definesL b
 omega
set_option maxHeartbeats 16000000 in
theorem znode2_calls (made : Bool) (es : List S38) (ns : List S35) (Ae An : Option Addr) (ce cn : Nat) (k : Nat) (w : World) (he : k38.C w Ae es.length es) (hce : es.length ≤ ce) (hn : k35.C w An ns.length ns) (hcn : ns.length ≤ cn) (hk : k < ns.length) (n : S35) (hnk : ns.getD k z35 = n) (m : Mp) (hm : TiedK es ns k m) (hfit : NodeFit made n) (hz : NodeSz ns k n) :
   Calls Tryz.prog 17 #[.agg #[.slice Ae es.length ce, .slice An ns.length cn], .int .i64 (k : Int)] w fun e w' => e = .returned (.agg #[.int .i64 (nodeF (nodeR es ns m n) k).1, .int .i64 (nodeF (nodeR es ns m n) k).2.1, .int .i64 (nodeF (nodeR es ns m n) k).2.2]) ∧ Below w.heap.size w w' := by
 have HE := Aside0.mk he; have HCE := Aside0.mk hce; have HN := Aside0.mk hn; have HCN := Aside0.mk hcn; have HB := Aside0.mk (Below.refl w.heap.size w); have HKL := Aside0.mk hk; have HM := Aside0.mk hm; have HFIT := Aside0.mk hfit; have HZ := Aside0.mk hz
 have hhd := fun (W : World) (hB : Below w.heap.size w W) => zhead_calls es ns Ae An ce cn k W (Kd.C_below hn hB) hcn hk m hm.nodes (by rw [hnk]; exact hz.sz)
 rw [hnk] at hhd
 have hdf := fun (W : World) (hB : Below w.heap.size w W) (b : Nat) (hb : b < n.f4.length) => zdef_calls es ns Ae An ce cn k b W (Kd.C_below he hB) hce (Kd.C_below hn hB) hcn hk n hnk hb (n.f4.getD b z47) rfl hz.il (hz.sl b (by omega)) (hz.dl b hb).1 (Nat.le_trans (vars_take b) hz.vl) (hz.dl b hb).2.1 (hz.dl b hb).2.2
 have hit := fun (mf : Mp) (Vf : SMap) (ht : TiedD es ns k n.f4.length n mf Vf) (W : World) (hB : Below w.heap.size w W) (b : Nat) (hb : b < n.f4.length) => zitem_walk es ns Ae An ce cn k b made (usesB mf Vf (mkM 1 n.f1) es ns) W (Kd.C_below hn hB) hk n hnk hb (n.f4.getD b z47) rfl (fun y W2 csy i q hK hW hm2 => zuses_says es ns Ae An ce cn k W n mf Vf (mkM 1 n.f1) made (Kd.C_below he hB) hce (Kd.C_below hn hB) hcn hk hnk hz.sz.1 hz.vl (tied_uses ht) (SizeOf.sizeOf y) y (Nat.le_refl _) W2 csy i q hK hW hm2) (hfit.2 b hb).1
 have HC := Aside0.mk (show nodeF (nodeR es ns m n) k = (if (nodeR es ns m n).2.1 = true then (4, (k : Int), (nodeR es ns m n).1) else (0, 0, 0)) from rfl)
 have HNR := Aside0.mk (show nodeR es ns m n = (if headB m n = true then nodeT es ns n (runDefs m (mkM 0 n.f2) n.f4 0) else (-1, true, m)) from rfl)
 generalize nodeF (nodeR es ns m n) k = C at HC ⊢
 generalize nodeR es ns m n = NR at HC HNR
 generalize headB m n = hh at hhd HNR
 have hu1 := Tryz.underlying25; have hu2 := Tryz.underlying35; have hu7 := Tryz.underlying27
 have HUF := Aside0.mk Tryz.underlying29
 have hkz : (k : Int) < (ns.length : Int) := by omega
 obtain ⟨nad, ncs, rfl, _, nK, ncc⟩ := Kd.C_get hn z35 (k : Int) (by omega) (by omega)
 have nK' := nK
 obtain ⟨nA1, nc1, nA2, nc2, nA3, nc3, nA4, nc4, rfl, nl1, ng1, nl2, ng2, nl3, ng3, nl4, ng4⟩ := k35_open nK'
 have nx0 := (HB.out.cell (World.block_lt_of_cell? w _ (ncc 0 _ rfl))).trans (ncc 0 _ rfl)
 have nx1 := (HB.out.cell (World.block_lt_of_cell? w _ (ncc 1 _ rfl))).trans (ncc 1 _ rfl)
 have nx2 := (HB.out.cell (World.block_lt_of_cell? w _ (ncc 2 _ rfl))).trans (ncc 2 _ rfl)
 have nx3 := (HB.out.cell (World.block_lt_of_cell? w _ (ncc 3 _ rfl))).trans (ncc 3 _ rfl)
 have nx4 := (HB.out.cell (World.block_lt_of_cell? w _ (ncc 4 _ rfl))).trans (ncc 4 _ rfl)
 rw [show (k35).sz = 5 from rfl, Nat.add_zero, Int.toNat_natCast] at nx0
 rw [show (k35).sz = 5 from rfl, Int.toNat_natCast, add_field _ _ 1 (by omega)] at nx1
 rw [show (k35).sz = 5 from rfl, Int.toNat_natCast, add_field _ _ 2 (by omega)] at nx2
 rw [show (k35).sz = 5 from rfl, Int.toNat_natCast, add_field _ _ 3 (by omega)] at nx3
 rw [show (k35).sz = 5 from rfl, Int.toNat_natCast, add_field _ _ 4 (by omega)] at nx4
 clear ncc
 try simp only [Int.toNat_natCast] at nx0 nx1 nx2 nx3 nx4 nK nl1 ng1 nl2 ng2 nl3 ng3 nl4 ng4
 rw [hnk] at nx0 nx1 nx2 nx3 nx4 nK nl1 ng1 nl2 ng2 nl3 ng3 nl4 ng4
 clear nK
 have nL1 := Aside0.mk nl1; have nG1 := Aside0.mk ng1; clear nl1 ng1
 have nL2 := Aside0.mk nl2; have nG2 := Aside0.mk ng2; clear nl2 ng2
 have nL3 := Aside0.mk nl3; have nG3 := Aside0.mk ng3; clear nl3 ng3
 have nL4 := Aside0.mk nl4; have nG4 := Aside0.mk ng4; clear nl4 ng4
 clear he hce hn hcn hm hfit hz
 go_enter Tryz.func17, Tryz.ntmps17
 go_upto_region 1 with ((with_reducible refine gate_dst (N := 2) rfl ?_); refine box_event ?hg (N := 2) ?hd (cs := #[.slice Ae es.length ce, .slice (some nad) ns.length cn]) (t := 25) ?hr ?_; (case hd => rfl); (case hg => rfl); (case hr => first | (go_simp; done) | (go_simp; rfl)); intro g2 hg_ w3 hbox hb; have B2 := Aside0.mk hbox; have LB2 := Aside0.mk ((by rw [hg_]; exact below_size HB.out) : w.heap.size ≤ g2); replace HB := Aside0.mk (below_step HB.out hb); clear hb hbox hg_)
 have Q4 := Aside0.mk (blk_new w3 (.cells #[.int .i64 0, .int .i64 0, .int .i64 0] 29 (0, 0)))
 replace B2 := Aside0.mk (blk_alloc B2.out (.cells #[.int .i64 0, .int .i64 0, .int .i64 0] 29 (0, 0)))
 have L4 := Aside0.mk (HB.out.size)
 replace HB := Aside0.mk (below_alloc HB.out (.cells #[.int .i64 0, .int .i64 0, .int .i64 0] 29 (0, 0)))
 generalize hg4 : w3.heap.size = g4 at Q4 L4 ⊢
 clear hg4
 generalize w3.alloc (.cells #[.int .i64 0, .int .i64 0, .int .i64 0] 29 (0, 0)) = w4 at Q4 B2 HB ⊢
 have c2_0 := (blk_cell B2.out 0).trans rfl
 have c2_1 := (blk_cell B2.out 1).trans rfl
 have hn0 := (HB.out.cell (World.block_lt_of_cell? w _ nx0)).trans nx0
 have hn1 := (HB.out.cell (World.block_lt_of_cell? w _ nx1)).trans nx1
 have hn2 := (HB.out.cell (World.block_lt_of_cell? w _ nx2)).trans nx2
 have hn3 := (HB.out.cell (World.block_lt_of_cell? w _ nx3)).trans nx3
 have hn4 := (HB.out.cell (World.block_lt_of_cell? w _ nx4)).trans nx4
 go_upto_region 2 with ((with_reducible refine gate_store (t := 35) (p := 5) rfl ?_); refine store_whole rfl rfl 35 _ _ rfl w4.heap.size _ 35 rfl (blk_new _ _) _ rfl rfl rfl (by simp [Value.oneCell']) ?_; intro w2 hb2 hg2; clear c2_0 c2_1 hn0 hn1 hn2 hn3 hn4; replace B2 := Aside0.mk (blk_as B2.out hg2); replace Q4 := Aside0.mk (blk_as Q4.out hg2); replace HB := Aside0.mk (below_as HB.out hg2); obtain ⟨g5, hq_⟩ : ∃ g_, g_ = w4.heap.size := ⟨_, rfl⟩; rw [← hq_] at hb2; rw [← hq_]; have B5 := Aside0.mk hb2; clear hb2 hg2 hq_)
 clear hkz nx0 nx1 nx2 nx3 nx4
 generalize w2 = w5 at B2 Q4 B5 HB ⊢
 have c2_0 := (blk_cell B2.out 0).trans rfl
 have c2_1 := (blk_cell B2.out 1).trans rfl
 go_wp2_with fail
 with_reducible refine (hhd _ HB.out).mono ?_
 rintro e w6 ⟨rfl, hb_⟩
 replace B2 := Aside0.mk (below_blk B2.out hb_); replace Q4 := Aside0.mk (below_blk Q4.out hb_); replace B5 := Aside0.mk (below_blk B5.out hb_); replace HB := Aside0.mk (below_step HB.out hb_)
 clear hb_ hhd c2_0 c2_1
 have HK := Aside0.mk (Below.refl w6.heap.size w6)
 cases hh with
 | false =>
   have HCF := Aside0.mk (show C = (4, (k : Int), -1) by rw [HC.out, HNR.out, if_neg Bool.false_ne_true]; rfl)
   go_wp2_with ((with_reducible refine gate_store (t := 29) (p := 4) rfl ?_); refine store_whole rfl rfl 29 _ _ rfl g4 _ 29 rfl (below_blk Q4.out HK.out) _ rfl rfl rfl (by simp [Value.oneCell']) ?_; intro wf hbf hgf; have HBF := Aside0.mk hbf; have HGF := Aside0.mk hgf; clear hbf hgf)
   refine bodyPost_ret (results_c1 rfl _ _ g4 29 _ (0, 0) _ rfl HBF.out HUF.out rfl rfl) rfl ?_
   exact ⟨by rw [HCF.out], (below_step HB.out HK.out).grown HGF.out (below_step HB.out HK.out).size (fun k hk => by cases hk; exact L4.out)⟩
 | true =>
 have HNR2 := Aside0.mk (show NR = nodeT es ns n (runDefs m (mkM 0 n.f2) n.f4 0) from HNR.out)
 clear HNR
 have HRD := Aside0.mk (show runDefs m (mkM 0 n.f2) (n.f4.drop 0) 0 = runDefs m (mkM 0 n.f2) n.f4 0 by rw [List.drop_zero])
 have HUN := Aside0.mk (fun (m' : Mp) (V' : SMap) => @unset_tied n m m' V')
 generalize runDefs m (mkM 0 n.f2) n.f4 0 = R at HNR2 HRD HUN
 have HTD := Aside0.mk (tiedD_zero (n := n) HM.out)
 have HNK := Aside0.mk hnk
 clear hnk
 go_wp2_with fail
 go_loopg [6] n.f4.length (fun gg s_ wr => ∃ (kk : Nat) (mk : Mp) (Vk : SMap), kk ≤ n.f4.length ∧ n.f4.length - kk ≤ gg ∧ s_ = .int .i64 kk ∧ Aside0 (Below w6.heap.size w6 wr) ∧ Aside0 (TiedD es ns k kk n mk Vk) ∧ Aside0 (runDefs mk Vk (n.f4.drop kk) kk = R))
 case atStart => exact ⟨0, m, mkM 0 n.f2, Nat.zero_le _, by omega, rfl, HK, HTD, HRD⟩
 case round =>
   clear HK HTD HRD
   obtain ⟨kk, mk, Vk, hkk, hg, rfl, HK, TD, RD⟩ := hrel
   have hmx : n.f4.length ≤ 9223372036854775807 := (nG4.out).2.1
   have HBr := Aside0.mk (below_step HB.out HK.out)
   by_cases hlt : kk < n.f4.length
   · have hltz : (kk : Int) < (n.f4.length : Int) := by omega
     have hd := fun (W : World) (hB : Below w.heap.size w W) => hdf W hB kk hlt
     have HDT := Aside0.mk (def_tied TD.out (n.f4.getD kk z47))
     rw [HDT.out] at hd
     have HNO := Aside0.mk (runDefs_no (m := mk) (V := Vk) hlt rfl kk)
     have HYES := Aside0.mk (runDefs_yes (m := mk) (V := Vk) hlt rfl kk)
     have HTS := Aside0.mk (tiedD_step HNK.out hlt TD.out)
     generalize n.f4.getD kk z47 = x at hd HNO HYES HTS HDT
     generalize hq : defB mk Vk x (definesL x) = q at hd
     have HQ := Aside0.mk hq; clear hq HDT
     have B5x := Aside0.mk (below_blk B5.out HK.out)
     have c5_0 := (blk_cell B5x.out 0).trans rfl
     have c5_1 := (blk_cell B5x.out 1).trans rfl
     have c5_2 := (blk_cell B5x.out 2).trans rfl
     have c5_3 := (blk_cell B5x.out 3).trans rfl
     have c5_4 := (blk_cell B5x.out 4).trans rfl
     have B2x := Aside0.mk (below_blk B2.out HK.out)
     have c2_0 := (blk_cell B2x.out 0).trans rfl
     have c2_1 := (blk_cell B2x.out 1).trans rfl
     go_wp2_with fail
     with_reducible refine (hd _ HBr.out).mono ?_
     rintro e w8 ⟨rfl, hb_⟩
     replace HK := Aside0.mk (below_step HK.out hb_)
     clear hb_ hd HBr B5x c5_0 c5_1 c5_2 c5_3 c5_4 B2x c2_0 c2_1
     cases q with
     | false =>
       have HRF := Aside0.mk (show R = (some kk, mk, Vk) by rw [← RD.out, HNO.out HQ.out])
       have HCF := Aside0.mk (show C = (4, (k : Int), (kk : Int)) by rw [HC.out, HNR2.out, HRF.out]; rfl)
       go_wp2_with ((with_reducible refine gate_store (t := 29) (p := 4) rfl ?_); refine store_whole rfl rfl 29 _ _ rfl g4 _ 29 rfl (below_blk Q4.out HK.out) _ rfl rfl rfl (by simp [Value.oneCell']) ?_; intro wf hbf hgf; have HBF := Aside0.mk hbf; have HGF := Aside0.mk hgf; clear hbf hgf)
       refine bodyPost_ret (results_c1 rfl _ _ g4 29 _ (0, 0) _ rfl HBF.out HUF.out rfl rfl) rfl ?_
       exact ⟨by rw [HCF.out], (below_step HB.out HK.out).grown HGF.out (below_step HB.out HK.out).size (fun k hk => by cases hk; exact L4.out)⟩
     | true =>
       have HR2 := Aside0.mk ((HYES.out HQ.out).symm.trans RD.out)
       go_wp2_with fail
       go_roundg (n.f4.length - (kk + 1))
       case measure => omega
       case rel => exact ⟨kk + 1, _, _, by omega, by omega, by go_num, HK, HTS, HR2⟩
   · have hltz : ¬ (kk : Int) < (n.f4.length : Int) := by omega
     obtain rfl : kk = n.f4.length := by omega
     have HRF := Aside0.mk (show R = (none, mk, Vk) by rw [← RD.out, List.drop_length]; rfl)
     have HUT := Aside0.mk (HUN.out mk Vk HRF.out)
     have HN3 := Aside0.mk (show NR = (if n.f3.any (unset Vk) = true then (-1, true, mk) else nodeE mk (firstUse (usesB mk Vk (mkM 1 n.f1) es ns) n.f4 0)) by rw [HNR2.out, HRF.out]; rfl)
     have hit2 := fun (W : World) (hB : Below w.heap.size w W) (b : Nat) (hb : b < n.f4.length) => hit mk Vk TD.out W hB b hb
     clear HRF RD HNR2 HUN hit TD hg hkk hltz hlt hdf
     have hva := fun (W : World) (hB : Below w.heap.size w W) => rvars_calls (partN [] n.f4) W _ (k35_mk W (partN [] n.f4) (A1 := none) (c1 := 0) (Nat.le_refl 0) (Kd.C_nil _ _) (A2 := none) (c2 := 0) (Nat.le_refl 0) (Kd.C_nil _ _) (A3 := none) (c3 := 0) (Nat.le_refl 0) (Kd.C_nil _ _) nL4.out (Kd.C_below nG4.out hB)) (by have h_ := HZ.out.vl; have h2_ : (varsL (partN [] n.f4)).length ≤ (varsL n).length := (by show (([] : List ByteArray) ++ n.f4.flatMap definesL).length ≤ (n.f2 ++ n.f4.flatMap definesL).length; rw [List.nil_append, List.length_append]; omega); omega)
     have HML := Aside0.mk (show (n.f4.flatMap definesL).length ≤ 1048576 by have h_ := HZ.out.vl; have h2_ : (varsL n).length = n.f2.length + (n.f4.flatMap definesL).length := List.length_append; omega)
     rw [show varsL (partN [] n.f4) = n.f4.flatMap definesL from rfl] at hva
     simp only [partN, List.length_nil] at hva
     generalize n.f4.flatMap definesL = mds at hva HUT HML
     have B5x := Aside0.mk (below_blk B5.out HK.out)
     have c5_0 := (blk_cell B5x.out 0).trans rfl
     have c5_1 := (blk_cell B5x.out 1).trans rfl
     have c5_2 := (blk_cell B5x.out 2).trans rfl
     have c5_3 := (blk_cell B5x.out 3).trans rfl
     have c5_4 := (blk_cell B5x.out 4).trans rfl
     go_wp2_with fail
     refine (hva _ HBr.out).mono ?_
     rintro e w8 ⟨A7, c7, rfl, h7c, h7, hb_⟩
     have H7C := Aside0.mk h7c; have H7 := Aside0.mk h7
     replace HK := Aside0.mk (below_step HK.out hb_)
     clear h7c h7 hb_ hva HBr B5x c5_0 c5_1 c5_2 c5_3 c5_4
     go_wp2_with fail
     have HJ := Aside0.mk (Below.refl w8.heap.size w8)
     go_loopg [8] n.f3.length (fun gg s_ wr => ∃ kk : Nat, kk ≤ n.f3.length ∧ n.f3.length - kk ≤ gg ∧ s_ = .int .i64 kk ∧ Aside0 (Below w8.heap.size w8 wr) ∧ Aside0 (∀ j, j < kk → (fun s => !unset Vk s) (n.f3.getD j (⟨#[]⟩ : ByteArray)) = true))
     case atStart => exact ⟨0, Nat.zero_le _, by omega, rfl, HJ, ⟨fun j hj => absurd hj (Nat.not_lt_zero _)⟩⟩
     case round =>
       clear HJ
       obtain ⟨kk, hkk, hg, rfl, HJ, NA⟩ := hrel
       have hmx : n.f3.length ≤ 9223372036854775807 := (nG3.out).2.1
       have HK2 := Aside0.mk (below_step HK.out HJ.out)
       have HBr := Aside0.mk (below_step HB.out HK2.out)
       have B5x := Aside0.mk (below_blk B5.out HK2.out)
       have c5_0 := (blk_cell B5x.out 0).trans rfl
       have c5_1 := (blk_cell B5x.out 1).trans rfl
       have c5_2 := (blk_cell B5x.out 2).trans rfl
       have c5_3 := (blk_cell B5x.out 3).trans rfl
       have c5_4 := (blk_cell B5x.out 4).trans rfl
       by_cases hlt : kk < n.f3.length
       · have hltz : (kk : Int) < (n.f3.length : Int) := by omega
         obtain ⟨aad, acs, ha_, _, aK, acc⟩ := Kd.C_get nG3.out (⟨#[]⟩ : ByteArray) (kk : Int) (by omega) (by omega)
         obtain rfl := aK
         subst ha_
         have ax0 := (HBr.out.cell (World.block_lt_of_cell? w _ (acc 0 _ rfl))).trans (acc 0 _ rfl)
         simp only [show Kd.string.sz = 1 from rfl, Nat.mul_one, Nat.add_zero, Int.toNat_natCast] at ax0
         clear acc
         try simp only [Int.toNat_natCast] at ax0
         generalize Ya0 : n.f3.getD kk (⟨#[]⟩ : ByteArray) = a at ax0
         have Ya := Aside0.mk Ya0; clear Ya0
         have hhas := fun (W : World) (hB : Below w8.heap.size w8 W) => zhas_below A7 c7 mds a W (Kd.C_below H7.out hB) H7C.out (by have := HML.out; omega)
         have HUA := Aside0.mk (HUT.out a)
         generalize inB mds a = q at hhas HUA
         go_wp2_with fail
         with_reducible refine (hhas _ HJ.out).mono ?_
         rintro e w9 ⟨rfl, hb_⟩
         replace HJ := Aside0.mk (below_step HJ.out hb_)
         clear hb_ hhas HBr HK2 ax0 B5x c5_0 c5_1 c5_2 c5_3 c5_4
         cases q with
         | false =>
           have HK := Aside0.mk (below_step HK.out HJ.out)
           have HAN := Aside0.mk (show n.f3.any (unset Vk) = true by rw [List.any_eq_true]; exact ⟨a, by rw [← Ya.out, List.getD_eq_getElem?_getD, List.getElem?_eq_getElem hlt]; exact List.getElem_mem hlt, by rw [HUA.out]; rfl⟩)
           have HCF := Aside0.mk (show C = (4, (k : Int), -1) by rw [HC.out, HN3.out, if_pos HAN.out]; rfl)
           go_wp2_with ((with_reducible refine gate_store (t := 29) (p := 4) rfl ?_); refine store_whole rfl rfl 29 _ _ rfl g4 _ 29 rfl (below_blk Q4.out HK.out) _ rfl rfl rfl (by simp [Value.oneCell']) ?_; intro wf hbf hgf; have HBF := Aside0.mk hbf; have HGF := Aside0.mk hgf; clear hbf hgf)
           refine bodyPost_ret (results_c1 rfl _ _ g4 29 _ (0, 0) _ rfl HBF.out HUF.out rfl rfl) rfl ?_
           exact ⟨by rw [HCF.out], (below_step HB.out HK.out).grown HGF.out (below_step HB.out HK.out).size (fun k hk => by cases hk; exact L4.out)⟩
         | true =>
           go_wp2_with fail
           go_roundg (n.f3.length - (kk + 1))
           case measure => omega
           case rel => exact ⟨kk + 1, by omega, by omega, by go_num, HJ, ⟨zupto_step (P := fun s => !unset Vk s) NA.out Ya.out (by rw [HUA.out]; rfl)⟩⟩
       · have hltz : ¬ (kk : Int) < (n.f3.length : Int) := by omega
         obtain rfl : kk = n.f3.length := by omega
         have HAL := Aside0.mk (all_getD n.f3 (fun s => !unset Vk s) (⟨#[]⟩ : ByteArray) NA.out)
         have HAN := Aside0.mk (show n.f3.any (unset Vk) = false by have h_ := HAL.out; rw [all_not'] at h_; simpa using h_)
         have HN4 := Aside0.mk (show NR = nodeE mk (firstUse (usesB mk Vk (mkM 1 n.f1) es ns) n.f4 0) by rw [HN3.out, if_neg (by rw [HAN.out]; simp)])
         go_wp2_with fail
         replace HK := HK2
         clear HN3 HAL HAN NA hg hkk hltz hlt HK2 HJ HBr H7 H7C HUT B5x c5_0 c5_1 c5_2 c5_3 c5_4
         have HFU := Aside0.mk (show firstUse (usesB mk Vk (mkM 1 n.f1) es ns) (n.f4.drop 0) 0 = firstUse (usesB mk Vk (mkM 1 n.f1) es ns) n.f4 0 by rw [List.drop_zero])
         generalize hU : usesB mk Vk (mkM 1 n.f1) es ns = U at hit2 HFU HN4
         generalize firstUse U n.f4 0 = Q at HFU HN4
         go_loopg [9] n.f4.length (fun gg s_ wr => ∃ (kk : Nat), kk ≤ n.f4.length ∧ n.f4.length - kk ≤ gg ∧ s_ = .int .i64 kk ∧ Aside0 (Below w6.heap.size w6 wr) ∧ Aside0 (firstUse U (n.f4.drop kk) kk = Q))
         case atStart => exact ⟨0, Nat.zero_le _, by omega, rfl, HK, HFU⟩
         case round =>
           clear HK HFU
           obtain ⟨kk, hkk, hg, rfl, HK, FU⟩ := hrel
           have hmx : n.f4.length ≤ 9223372036854775807 := (nG4.out).2.1
           have HBr := Aside0.mk (below_step HB.out HK.out)
           by_cases hlt : kk < n.f4.length
           · have hltz : (kk : Int) < (n.f4.length : Int) := by omega
             have hd := fun (W : World) (hB : Below w.heap.size w W) => hit2 W hB kk hlt
             have HNO := Aside0.mk (firstUse_no (U := U) hlt rfl kk)
             have HYES := Aside0.mk (firstUse_yes (U := U) hlt rfl kk)
             generalize n.f4.getD kk z47 = x at hd HNO HYES
             generalize hq : itemUB U x = q at hd
             have HQ := Aside0.mk hq; clear hq
             have B5x := Aside0.mk (below_blk B5.out HK.out)
             have c5_0 := (blk_cell B5x.out 0).trans rfl
             have c5_1 := (blk_cell B5x.out 1).trans rfl
             have c5_2 := (blk_cell B5x.out 2).trans rfl
             have c5_3 := (blk_cell B5x.out 3).trans rfl
             have c5_4 := (blk_cell B5x.out 4).trans rfl
             have B2x := Aside0.mk (below_blk B2.out HK.out)
             have c2_0 := (blk_cell B2x.out 0).trans rfl
             have c2_1 := (blk_cell B2x.out 1).trans rfl
             go_wp2_with fail
             with_reducible refine (hd _ HBr.out).mono ?_
             rintro e w12 ⟨rfl, hb_⟩
             replace HK := Aside0.mk (below_step HK.out hb_)
             clear hb_ hd HBr B5x c5_0 c5_1 c5_2 c5_3 c5_4 B2x c2_0 c2_1
             cases q with
             | false =>
               have HQF := Aside0.mk (show Q = some kk by rw [← FU.out, HNO.out HQ.out])
               have HCF := Aside0.mk (show C = (4, (k : Int), (kk : Int)) by rw [HC.out, HN4.out, HQF.out]; rfl)
               go_wp2_with ((with_reducible refine gate_store (t := 29) (p := 4) rfl ?_); refine store_whole rfl rfl 29 _ _ rfl g4 _ 29 rfl (below_blk Q4.out HK.out) _ rfl rfl rfl (by simp [Value.oneCell']) ?_; intro wf hbf hgf; have HBF := Aside0.mk hbf; have HGF := Aside0.mk hgf; clear hbf hgf)
               refine bodyPost_ret (results_c1 rfl _ _ g4 29 _ (0, 0) _ rfl HBF.out HUF.out rfl rfl) rfl ?_
               exact ⟨by rw [HCF.out], (below_step HB.out HK.out).grown HGF.out (below_step HB.out HK.out).size (fun k hk => by cases hk; exact L4.out)⟩
             | true =>
               have HR2 := Aside0.mk ((HYES.out HQ.out).symm.trans FU.out)
               go_wp2_with fail
               go_roundg (n.f4.length - (kk + 1))
               case measure => omega
               case rel => exact ⟨kk + 1, by omega, by omega, by go_num, HK, HR2⟩
           · have hltz : ¬ (kk : Int) < (n.f4.length : Int) := by omega
             obtain rfl : kk = n.f4.length := by omega
             have HQF := Aside0.mk (show Q = none by rw [← FU.out, List.drop_length]; rfl)
             have HCF := Aside0.mk (show C = (0, 0, 0) by rw [HC.out, HN4.out, HQF.out]; rfl)
             have B5x := Aside0.mk (below_blk B5.out HK.out)
             have c5_0 := (blk_cell B5x.out 0).trans rfl
             have c5_1 := (blk_cell B5x.out 1).trans rfl
             have c5_2 := (blk_cell B5x.out 2).trans rfl
             have c5_3 := (blk_cell B5x.out 3).trans rfl
             have c5_4 := (blk_cell B5x.out 4).trans rfl
             go_wp2_with ((with_reducible refine gate_store (t := 29) (p := 4) rfl ?_); refine store_whole rfl rfl 29 _ _ rfl g4 _ 29 rfl (below_blk Q4.out HK.out) _ rfl rfl rfl (by simp [Value.oneCell']) ?_; intro wf hbf hgf; have HBF := Aside0.mk hbf; have HGF := Aside0.mk hgf; clear hbf hgf)
             refine bodyPost_ret (results_c1 rfl _ _ g4 29 _ (0, 0) _ rfl HBF.out HUF.out rfl rfl) rfl ?_
             exact ⟨by rw [HCF.out], (below_step HB.out HK.out).grown HGF.out (below_step HB.out HK.out).size (fun k hk => by cases hk; exact L4.out)⟩
end Go.Proofs.YtggfnbnochmkdaaGreat
