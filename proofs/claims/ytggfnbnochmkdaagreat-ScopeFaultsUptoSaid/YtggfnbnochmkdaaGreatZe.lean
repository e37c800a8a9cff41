/- The reference: whether what an item defines is well. -/
import Derived.Test.YtggfnbnochmkdaaGreatZd
namespace Go.Proofs.YtggfnbnochmkdaaGreat
open Go Go.RowKit Go.Lib Go.Proofs.YtggfnbnochmkdaaGreatW.PrintWords Go.Proofs.YtggfnbnochmkdaaGreat.PScope
set_option maxRecDepth 100000
set_option linter.unusedSimpArgs false
set_option linter.unusedVariables false
def partN (l : List ByteArray) (its : List S47) : S35 := ⟨⟨#[]⟩, [], l, [], its⟩
def zdefB (es : List S38) (ns : List S35) (k b : Nat) (n : S35) (x : S47) : Bool :=
 (definesL x).all (fun s => !inB (varsL (partN n.f2 (n.f4.take b))) s) && (unlikeB (definesL x) && (if x.f1.length = 0 then (((definesL x).length : Int) == 1) || ((x.f0.f1.f0 == 14) || (x.f0.f1.f0 == 15)) else zaut es (statesL ns k b) (definesL x) x))
set_option maxHeartbeats 16000000 in
theorem zdef_calls (es : List S38) (ns : List S35) (Ae An : Option Addr) (ce cn : Nat) (k b : Nat) (w : World) (he : k38.C w Ae es.length es) (hce : es.length ≤ ce) (hn : k35.C w An ns.length ns) (hcn : ns.length ≤ cn) (hk : k < ns.length) (n : S35) (hnk : ns.getD k z35 = n) (hb : b < n.f4.length) (x : S47) (hxb : n.f4.getD b z47 = x) (hil : ∀ n, n ∈ ns → n.f4.length ≤ 9223372036854775807 ∧ ∀ x, x ∈ n.f4 → x.f1.length ≤ 9223372036854775807) (hsl : (statesL ns k b).length ≤ 1048576) (hdl : (definesL x).length ≤ 1048576) (hvl : (varsL (partN n.f2 (n.f4.take b))).length ≤ 1048576) (hxl : x.f1.length ≤ 1048576) (hel : ∀ i, i < x.f1.length → (x.f1.getD i z65).f1.length ≤ 1048576) :
   Calls Tryz.prog 37 #[.agg #[.slice Ae es.length ce, .slice An ns.length cn], .int .i64 (k : Int), .int .i64 (b : Int)] w fun e w' => e = .returned (.bool (zdefB es ns k b n x)) ∧ Below w.heap.size w w' := by
 have HE := Aside0.mk he; have HCE := Aside0.mk hce; have HN := Aside0.mk hn; have HCN := Aside0.mk hcn; have HB := Aside0.mk (Below.refl w.heap.size w)
 have HDL := Aside0.mk hdl; have HVL := Aside0.mk hvl; have HKL := Aside0.mk hk; have HBL := Aside0.mk hb
 have HAU := Aside0.mk (fun (Ae An : Option Addr) (W : World) (he : k38.C W Ae es.length es) (hn : k35.C W An ns.length ns) (hx0 : x.f1.length ≠ 0) => zaut_calls es ns Ae An ce cn k b W he hce hn hcn hk n hnk hb x hxb hil hsl hdl hxl hel hx0)
 have HF := Aside0.mk (show zdefB es ns k b n x = ((definesL x).all (fun s => !inB (varsL (partN n.f2 (n.f4.take b))) s) && (unlikeB (definesL x) && (if x.f1.length = 0 then (((definesL x).length : Int) == 1) || ((x.f0.f1.f0 == 14) || (x.f0.f1.f0 == 15)) else zaut es (statesL ns k b) (definesL x) x))) from rfl)
 have hkz : (k : Int) < (ns.length : Int) := by omega
 have hbz : (b : Int) < (n.f4.length : Int) := by omega
 have hu1 := Tryz.underlying25; have hu2 := Tryz.underlying35; have hu3 := Tryz.underlying47; have hu4 := Tryz.underlying65; have hu5 := Tryz.underlying44; have hu6 := Tryz.underlying42
 clear he hce hn hcn hsl hdl hxl hel hil hvl
 obtain ⟨nad, ncs, rfl, _, nK, ncc⟩ := Kd.C_get HN.out z35 (k : Int) (by omega) (by omega)
 have nK' := nK
 obtain ⟨nA1, nc1, nA2, nc2, nA3, nc3, nA4, nc4, rfl, nl1, ng1, nl2, ng2, nl3, ng3, nl4, ng4⟩ := k35_open nK'
 have nx0 := (HB.out.cell (World.block_lt_of_cell? w _ (ncc 0 _ rfl))).trans (ncc 0 _ rfl)
 have nx1 := (HB.out.cell (World.block_lt_of_cell? w _ (ncc 1 _ rfl))).trans (ncc 1 _ rfl)
 have nx2 := (HB.out.cell (World.block_lt_of_cell? w _ (ncc 2 _ rfl))).trans (ncc 2 _ rfl)
 have nx3 := (HB.out.cell (World.block_lt_of_cell? w _ (ncc 3 _ rfl))).trans (ncc 3 _ rfl)
 have nx4 := (HB.out.cell (World.block_lt_of_cell? w _ (ncc 4 _ rfl))).trans (ncc 4 _ rfl)
 rw [show (k35).sz = 5 from rfl, Nat.add_zero, Int.toNat_natCast] at nx0
 rw [show (k35).sz = 5 from rfl, Int.toNat_natCast, add_field _ _ 1 (by omega)] at nx1
 rw [show (k35).sz = 5 from rfl, Int.toNat_natCast, add_field _ _ 2 (by omega)] at nx2
 rw [show (k35).sz = 5 from rfl, Int.toNat_natCast, add_field _ _ 3 (by omega)] at nx3
 rw [show (k35).sz = 5 from rfl, Int.toNat_natCast, add_field _ _ 4 (by omega)] at nx4
 clear ncc
 try simp only [Int.toNat_natCast] at nx0 nx1 nx2 nx3 nx4 nK nl1 ng1 nl2 ng2 nl3 ng3 nl4 ng4
 rw [hnk] at nx0 nx1 nx2 nx3 nx4 nK nl1 ng1 nl2 ng2 nl3 ng3 nl4 ng4
 skip
 have nL1 := Aside0.mk nl1; have nG1 := Aside0.mk ng1; clear nl1 ng1
 have nL2 := Aside0.mk nl2; have nG2 := Aside0.mk ng2; clear nl2 ng2
 have nL3 := Aside0.mk nl3; have nG3 := Aside0.mk ng3; clear nl3 ng3
 have nL4 := Aside0.mk nl4; have nG4 := Aside0.mk ng4; clear nl4 ng4
 obtain ⟨xad, xcs, rfl, _, xK, xcc⟩ := Kd.C_get nG4.out z47 (b : Int) (by omega) (by omega)
 have xK' := xK
 obtain ⟨xA0, xc0, xA4, xc4, xA5, xc5, xA6, xc6, rfl, xl0, xg0, xl4, xg4, xl5, xg5, xl6, xg6⟩ := k47_open xK'
 have xx0 := (HB.out.cell (World.block_lt_of_cell? w _ (xcc 0 _ rfl))).trans (xcc 0 _ rfl)
 have xx1 := (HB.out.cell (World.block_lt_of_cell? w _ (xcc 1 _ rfl))).trans (xcc 1 _ rfl)
 have xx2 := (HB.out.cell (World.block_lt_of_cell? w _ (xcc 2 _ rfl))).trans (xcc 2 _ rfl)
 have xx3 := (HB.out.cell (World.block_lt_of_cell? w _ (xcc 3 _ rfl))).trans (xcc 3 _ rfl)
 have xx4 := (HB.out.cell (World.block_lt_of_cell? w _ (xcc 4 _ rfl))).trans (xcc 4 _ rfl)
 have xx5 := (HB.out.cell (World.block_lt_of_cell? w _ (xcc 5 _ rfl))).trans (xcc 5 _ rfl)
 have xx6 := (HB.out.cell (World.block_lt_of_cell? w _ (xcc 6 _ rfl))).trans (xcc 6 _ rfl)
 rw [show (k47).sz = 7 from rfl, Nat.add_zero, Int.toNat_natCast] at xx0
 rw [show (k47).sz = 7 from rfl, Int.toNat_natCast, add_field _ _ 1 (by omega)] at xx1
 rw [show (k47).sz = 7 from rfl, Int.toNat_natCast, add_field _ _ 2 (by omega)] at xx2
 rw [show (k47).sz = 7 from rfl, Int.toNat_natCast, add_field _ _ 3 (by omega)] at xx3
 rw [show (k47).sz = 7 from rfl, Int.toNat_natCast, add_field _ _ 4 (by omega)] at xx4
 rw [show (k47).sz = 7 from rfl, Int.toNat_natCast, add_field _ _ 5 (by omega)] at xx5
 rw [show (k47).sz = 7 from rfl, Int.toNat_natCast, add_field _ _ 6 (by omega)] at xx6
 clear xcc
 try simp only [Int.toNat_natCast] at xx0 xx1 xx2 xx3 xx4 xx5 xx6 xK xl0 xg0 xl4 xg4 xl5 xg5 xl6 xg6
 rw [hxb] at xx0 xx1 xx2 xx3 xx4 xx5 xx6 xK xl0 xg0 xl4 xg4 xl5 xg5 xl6 xg6
 skip
 have xL0 := Aside0.mk xl0; have xG0 := Aside0.mk xg0; clear xl0 xg0
 have xL4 := Aside0.mk xl4; have xG4 := Aside0.mk xg4; clear xl4 xg4
 have xL5 := Aside0.mk xl5; have xG5 := Aside0.mk xg5; clear xl5 xg5
 have xL6 := Aside0.mk xl6; have xG6 := Aside0.mk xg6; clear xl6 xg6
 have XK := Aside0.mk xK; clear xK nK
 have hde := fun (W : World) (hB : Below w.heap.size w W) => rdefines_calls x W _ (Kd.K_below _ hB XK.out) (by have := HDL.out; omega)
 have hva := fun (W : World) (hB : Below w.heap.size w W) => rvars_calls (partN n.f2 (n.f4.take b)) W _ (k35_mk W (partN n.f2 (n.f4.take b)) (A1 := none) (c1 := 0) (Nat.le_refl 0) (Kd.C_nil _ _) nL2.out (Kd.C_below nG2.out hB) (A3 := none) (c3 := 0) (Nat.le_refl 0) (Kd.C_nil _ _) (A4 := some xad) (c4 := nc4) (by have := nL4.out; show (n.f4.take b).length ≤ _; rw [List.length_take]; omega) (C_take' (Kd.C_below nG4.out hB) b)) (by have := HVL.out; omega)
 simp only [partN] at hva
 have htk : (n.f4.take b).length = b := by have := HBL.out; rw [List.length_take]; omega
 simp only [htk, List.length_nil] at hva
 clear htk
 rw [show (⟨⟨#[]⟩, [], n.f2, [], n.f4.take b⟩ : S35) = partN n.f2 (n.f4.take b) from rfl] at hva
 generalize hfi : definesL x = l at hde HDL HF HAU ⊢
 clear hfi
 generalize hea : varsL (partN n.f2 (n.f4.take b)) = early at hva HVL HF ⊢
 clear hea
 have hbc : (b : Int) ≤ (nc4 : Int) := by have := nL4.out; omega
 have hbl : (b : Int) ≤ (n.f4.length : Int) := by omega
 go_enter Tryz.func37, Tryz.ntmps37
 go_upto_region 2 with (first | ((with_reducible refine gate_dst (N := 3) rfl ?_); refine box_event ?hg (N := 3) ?hd (cs := #[.slice Ae es.length ce, .slice (some nad) ns.length cn]) (t := 25) ?hr ?_; (case hd => rfl); (case hg => rfl); (case hr => first | (go_simp; done) | (go_simp; rfl)); intro g3 hg_ w_ hbox hb; have B3 := Aside0.mk hbox; have LB3 := Aside0.mk ((by rw [hg_]; exact below_size HB.out) : w.heap.size ≤ g3); replace HB := Aside0.mk (below_step HB.out hb); clear hb hbox hg_; have c3_0 := (blk_cell B3.out 0).trans rfl; have c3_1 := (blk_cell B3.out 1).trans rfl; have hn0 := (HB.out.cell (World.block_lt_of_cell? w _ nx0)).trans nx0; have hn1 := (HB.out.cell (World.block_lt_of_cell? w _ nx1)).trans nx1; have hn2 := (HB.out.cell (World.block_lt_of_cell? w _ nx2)).trans nx2; have hn3 := (HB.out.cell (World.block_lt_of_cell? w _ nx3)).trans nx3; have hn4 := (HB.out.cell (World.block_lt_of_cell? w _ nx4)).trans nx4) | ((with_reducible refine gate_store (t := 35) (p := 7) rfl ?_); refine store_whole rfl rfl 35 _ _ rfl w_.heap.size _ 35 rfl (blk_new _ _) _ rfl rfl rfl (by simp [Value.oneCell']) ?_; intro w2 hb2 hg2; clear c3_0 c3_1 hn0 hn1 hn2 hn3 hn4; replace B3 := Aside0.mk (blk_as B3.out hg2); replace HB := Aside0.mk (below_as HB.out hg2); obtain ⟨g7, hq_⟩ : ∃ g_, g_ = w_.heap.size := ⟨_, rfl⟩; rw [← hq_] at hb2; rw [← hq_]; have B7 := Aside0.mk hb2; clear hb2 hg2 hq_))
 generalize w2 = w7 at B3 B7 HB ⊢
 have c7_0 := (blk_cell B7.out 0).trans rfl
 have c7_1 := (blk_cell B7.out 1).trans rfl
 have c7_2 := (blk_cell B7.out 2).trans rfl
 have c7_3 := (blk_cell B7.out 3).trans rfl
 have c7_4 := (blk_cell B7.out 4).trans rfl
 have hx0 := (HB.out.cell (World.block_lt_of_cell? w _ xx0)).trans xx0
 have hx1 := (HB.out.cell (World.block_lt_of_cell? w _ xx1)).trans xx1
 have hx2 := (HB.out.cell (World.block_lt_of_cell? w _ xx2)).trans xx2
 have hx3 := (HB.out.cell (World.block_lt_of_cell? w _ xx3)).trans xx3
 have hx4 := (HB.out.cell (World.block_lt_of_cell? w _ xx4)).trans xx4
 have hx5 := (HB.out.cell (World.block_lt_of_cell? w _ xx5)).trans xx5
 have hx6 := (HB.out.cell (World.block_lt_of_cell? w _ xx6)).trans xx6
 go_upto_region 3 with ((with_reducible refine gate_store (t := 47) (p := 8) rfl ?_); refine store_whole rfl rfl 47 _ _ rfl w7.heap.size _ 47 rfl (blk_new _ _) _ rfl rfl rfl (by simp [Value.oneCell']) ?_; intro w2 hb2 hg2; clear c7_0 c7_1 c7_2 c7_3 c7_4 hx0 hx1 hx2 hx3 hx4 hx5 hx6; replace B3 := Aside0.mk (blk_as B3.out hg2); replace B7 := Aside0.mk (blk_as B7.out hg2); replace HB := Aside0.mk (below_as HB.out hg2); obtain ⟨g8, hq_⟩ : ∃ g_, g_ = w7.heap.size := ⟨_, rfl⟩; rw [← hq_] at hb2; rw [← hq_]; have B8 := Aside0.mk hb2; clear hb2 hg2 hq_)
 clear nx0 nx1 nx2 nx3 nx4 xx0 xx1 xx2 xx3 xx4 xx5 xx6 hkz hbz
 generalize w2 = w8 at B3 B7 B8 HB ⊢
 have c8_0 := (blk_cell B8.out 0).trans rfl
 have c8_1 := (blk_cell B8.out 1).trans rfl
 have c8_2 := (blk_cell B8.out 2).trans rfl
 have c8_3 := (blk_cell B8.out 3).trans rfl
 have c8_4 := (blk_cell B8.out 4).trans rfl
 have c8_5 := (blk_cell B8.out 5).trans rfl
 have c8_6 := (blk_cell B8.out 6).trans rfl
 go_wp2_with fail
 with_reducible refine (hde _ HB.out).mono ?_
 rintro e w9 ⟨A9, c9, rfl, h9c, h9, hb_⟩
 have H9C := Aside0.mk h9c; have H9 := Aside0.mk h9
 replace B3 := Aside0.mk (below_blk B3.out hb_); replace B7 := Aside0.mk (below_blk B7.out hb_); replace B8 := Aside0.mk (below_blk B8.out hb_); replace HB := Aside0.mk (below_step HB.out hb_)
 clear h9c h9 hb_ hde
 clear c8_0 c8_1 c8_2 c8_3 c8_4 c8_5 c8_6
 have c7_0 := (blk_cell B7.out 0).trans rfl
 have c7_1 := (blk_cell B7.out 1).trans rfl
 have c7_2 := (blk_cell B7.out 2).trans rfl
 have c7_3 := (blk_cell B7.out 3).trans rfl
 have c7_4 := (blk_cell B7.out 4).trans rfl
 go_upto_region 4 with fail
 go_cut [10] from 24 to 31 (fun s_ wx => ∃ A c, s_ = .slice A early.length c ∧ Aside0 (early.length ≤ c) ∧ Aside0 (Kd.string.C wx A early.length early) ∧ Aside0 (Below w9.heap.size w9 wx))
 case first =>
   go_region_with (refine (hva _ (below_drew1 HB.out)).mono ?_; rintro e w10 ⟨A10, c10, rfl, h10c, h10, hb_⟩; have H10C := Aside0.mk h10c; have H10 := Aside0.mk h10; have HK_ := Aside0.mk (below_step (below_drew1 (Below.refl w9.heap.size w9)) hb_); clear h10c h10 hb_)
   all_goals
     go_wp2_with fail
     go_meet
     case rel => exact ⟨A10, c10, rfl, H10C, H10, HK_⟩
 case rest =>
   clear hva hbc hbl
   clear c7_0 c7_1 c7_2 c7_3 c7_4
   obtain ⟨A10, c10, rfl, H10C, H10, HK0⟩ := hcut
   replace B3 := Aside0.mk (below_blk B3.out HK0.out); replace B7 := Aside0.mk (below_blk B7.out HK0.out); replace B8 := Aside0.mk (below_blk B8.out HK0.out); replace H9 := Aside0.mk (Kd.C_below H9.out HK0.out); replace HB := Aside0.mk (below_step HB.out HK0.out)
   clear HK0
   have HK := Aside0.mk (Below.refl wc.heap.size wc)
   go_wp2_with fail
   go_loopg [11] l.length (fun gg s_ wr => ∃ (kka : Nat), kka ≤ l.length ∧ l.length - kka ≤ gg ∧ s_ = .int .i64 kka ∧ Aside0 (Below wc.heap.size wc wr) ∧ Aside0 (∀ j, j < kka → (fun s => !inB early s) (l.getD j (⟨#[]⟩ : ByteArray)) = true))
   case atStart => exact ⟨0, Nat.zero_le _, by omega, rfl, HK, ⟨fun j hj => absurd hj (Nat.not_lt_zero _)⟩⟩
   case round =>
     clear HK
     obtain ⟨kka, hkka, hgkka, rfl, HK, Na⟩ := hrel
     have hmxa : l.length ≤ 9223372036854775807 := (H9.out).2.1
     by_cases hlta : kka < l.length
     · have hltza : (kka : Int) < (l.length : Int) := by omega
       have hlb : l.length ≤ c9 := H9C.out
       obtain ⟨aad, acs, ha_, _, aK, acc⟩ := Kd.C_get H9.out (⟨#[]⟩ : ByteArray) (kka : Int) (by omega) (by omega)
       obtain rfl := aK
       subst ha_
       have ax0 := (HK.out.cell (World.block_lt_of_cell? wc _ (acc 0 _ rfl))).trans (acc 0 _ rfl)
       simp only [show Kd.string.sz = 1 from rfl, Nat.mul_one, Nat.add_zero, Int.toNat_natCast] at ax0
       clear acc
       try simp only [Int.toNat_natCast] at ax0
       generalize Ya0 : l.getD kka (⟨#[]⟩ : ByteArray) = a at ax0
       have Ya := Aside0.mk Ya0; clear Ya0
       have hhas := fun (W : World) (hB : Below wc.heap.size wc W) => zhas_below A10 c10 early a W (Kd.C_below H10.out hB) H10C.out (by have := HVL.out; omega)
       generalize hq0 : inB early a = q at hhas
       have HQ := Aside0.mk hq0; clear hq0 hlb
       go_wp2_with fail
       with_reducible refine (hhas _ HK.out).mono ?_
       rintro e w13 ⟨rfl, hb_⟩
       replace HK := Aside0.mk (below_step HK.out hb_)
       clear hb_ hhas ax0
       cases q with
       | true =>
         go_wp2_with fail
         go_ret
         exact ⟨by rw [HF.out, all_getD_no l (fun s => !inB early s) (⟨#[]⟩ : ByteArray) kka hlta (by rw [Ya.out, HQ.out]; rfl)]; rfl, below_step HB.out HK.out⟩
       | false =>
         go_wp2_with fail
         go_roundg (l.length - (kka + 1))
         case measure => omega
         case rel => exact ⟨kka + 1, by omega, by omega, by go_num, HK, ⟨zupto_step (P := fun s => !inB early s) Na.out Ya.out (by rw [HQ.out]; rfl)⟩⟩
     · have hltza : ¬ (kka : Int) < (l.length : Int) := by omega
       obtain rfl : kka = l.length := by omega
       have HA := Aside0.mk (all_getD l (fun s => !inB early s) (⟨#[]⟩ : ByteArray) Na.out)
       have HF2 := Aside0.mk (show zdefB es ns k b n x = (unlikeB l && (if x.f1.length = 0 then ((l.length : Int) == 1) || ((x.f0.f1.f0 == 14) || (x.f0.f1.f0 == 15)) else zaut es (statesL ns k b) l x)) by rw [HF.out, HA.out]; rfl)
       clear HF HA Na hltza
       have hun := fun (W : World) (hB : Below wc.heap.size wc W) => zunlike_calls A9 c9 l W (Kd.C_below H9.out hB) H9C.out (by have := HDL.out; omega)
       generalize unlikeB l = q1 at HF2 hun
       go_wp2_with fail
       with_reducible refine (hun _ HK.out).mono ?_
       rintro e w14 ⟨rfl, hb_⟩
       replace HK := Aside0.mk (below_step HK.out hb_)
       clear hb_ hun
       cases q1 with
       | false =>
         go_wp2_with fail
         go_ret
         exact ⟨by rw [HF2.out]; rfl, below_step HB.out HK.out⟩
       | true =>
       have B8x := Aside0.mk (below_blk B8.out HK.out); have B3x := Aside0.mk (below_blk B3.out HK.out)
       have c8_0 := (blk_cell B8x.out 0).trans rfl
       have c8_1 := (blk_cell B8x.out 1).trans rfl
       have c8_2 := (blk_cell B8x.out 2).trans rfl
       have c8_3 := (blk_cell B8x.out 3).trans rfl
       have c8_4 := (blk_cell B8x.out 4).trans rfl
       have c8_5 := (blk_cell B8x.out 5).trans rfl
       have c8_6 := (blk_cell B8x.out 6).trans rfl
       have c3_0 := (blk_cell B3x.out 0).trans rfl
       have c3_1 := (blk_cell B3x.out 1).trans rfl
       by_cases e0 : x.f1.length = 0
       · have t0 : ((x.f1.length : Int) == 0) = true := by rw [e0]; rfl
         have HF3 := Aside0.mk (show zdefB es ns k b n x = (((l.length : Int) == 1) || ((x.f0.f1.f0 == 14) || (x.f0.f1.f0 == 15))) by rw [HF2.out, if_pos e0]; rfl)
         clear e0 HF2 HAU
         generalize hq1 : ((l.length : Int) == 1) = q1 at HF3
         generalize hq2 : (x.f0.f1.f0 == 14) = q2 at HF3
         generalize hq3 : (x.f0.f1.f0 == 15) = q3 at HF3
         cases q1 <;> cases q2 <;> cases q3 <;> (go_wp2_with fail; go_ret; exact ⟨by rw [HF3.out]; rfl, below_step HB.out HK.out⟩)
       · have t0 : ((x.f1.length : Int) == 0) = false := beq_eq_false_iff_ne.2 (by omega)
         have HF3 := Aside0.mk (show zdefB es ns k b n x = zaut es (statesL ns k b) l x by rw [HF2.out, if_neg e0]; rfl)
         have hau := fun (W : World) (hB : Below w.heap.size w W) => HAU.out Ae (some nad) W (Kd.C_below HE.out hB) (Kd.C_below HN.out hB) e0
         clear e0 HF2 HAU
         have HBB := Aside0.mk (below_step HB.out HK.out)
         go_wp2_with fail
         with_reducible refine (hau _ HBB.out).mono ?_
         rintro e w15 ⟨rfl, hb_⟩
         have HBC := Aside0.mk (below_step HBB.out hb_)
         clear hb_ hau
         go_wp2_with fail
         go_ret
         exact ⟨by rw [HF3.out]; rfl, HBC.out⟩
end Go.Proofs.YtggfnbnochmkdaaGreat
