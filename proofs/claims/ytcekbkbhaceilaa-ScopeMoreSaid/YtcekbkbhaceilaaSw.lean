/- The law ScopeMore: its walk. -/
import Derived.Deep.RegionLaw
import Derived.Test.YtcekbkbhaceilaaSu
namespace Go.Proofs.Ytcekbkbhaceilaa
open Go Go.RowKit Go.Lib Go.Proofs.YtcekbkbhaceilaaW.PrintWords Go.Proofs.Ytcekbkbhaceilaa.PScope
set_option maxRecDepth 100000
set_option linter.unusedSimpArgs false
set_option linter.unusedVariables false

/-- A kind whose elements are read in one world. -/
def kRead {α : Type} (w0 : World) (d : Kd α) : Kd α where
  sz := d.sz
  E := []
  K := fun _ x cs => d.K w0 x cs
  M := fun _ _ _ x cs => d.K w0 x cs
  K_len := fun h => d.K_len h
  K_one := fun h => d.K_one h
  K_below := fun _ h => h
  K_of_M := fun h => h
  M_mono := fun _ h => h
  M_bound := fun h => h
  M_move := fun _ h => h
  M_lower := fun _ h => h
theorem kRead_C {α : Type} {d : Kd α} {w0 w1 : World} {A : Option Addr} {n : Nat} {xs : List α} (h : (kRead w0 d).C w1 A n xs) (hB : Below w0.heap.size w0 w1) : d.C w1 A n xs :=
  ⟨h.1, h.2.1, fun hn => by
    obtain ⟨ad, e, hh⟩ := h.2.2 hn
    exact ⟨ad, e, fun j q hj => by obtain ⟨cs, k1, k2, k3⟩ := hh j q hj; exact ⟨cs, k1, d.K_below hB k2, k3⟩⟩⟩
theorem kRead_row {α : Type} {d : Kd α} {w0 W : World} {A : Option Addr} {n : Nat} {xs : List α} (h : d.C w0 A n xs) (hB : Below w0.heap.size w0 W) : (kRead w0 d).C W A n xs :=
  ⟨h.1, h.2.1, fun hn => by
    obtain ⟨ad, e, hh⟩ := h.2.2 hn
    exact ⟨ad, e, fun j q hj => by obtain ⟨cs, k1, k2, k3⟩ := hh j q hj; exact ⟨cs, k1, k2, fun i u hu => (hB.cell (World.block_lt_of_cell? w0 _ (k3 i u hu))).trans (k3 i u hu)⟩⟩⟩
theorem grown_none {W w1 : World} {v : Value} {g : Nat} {ob : Obj} (hg : W.grownBy w1 v.ownBlock) (hv : v.ownBlock = none) (h : W.heap[g]? = some ob) : w1.heap[g]? = some ob :=
  (hg.block g (blk_lt h) (by rw [hv]; intro e; cases e)).trans h
theorem grown_ok {α : Type} {d : Kd α} {e : TypeId} {W w1 : World} {base : Nat} {v : Value} {xs : List α} {g : Nat} {ob : Obj} (h : d.R e W base (fun k => k ≠ g) v xs) (hg : W.grownBy w1 v.ownBlock) (hb : W.heap[g]? = some ob) : w1.heap[g]? = some ob :=
  (hg.block g (blk_lt hb) (fun e => (h.1 g e.symm) rfl)).trans hb
theorem fresh_ne {W : World} {g : Nat} {ob : Obj} (h : W.heap[g]? = some ob) : ∀ k, W.heap.size ≤ k → k ≠ g := fun k hk e => by have := blk_lt h; omega
theorem info36 : (Try.prog.info? 36).map (fun i => (i.zero, i.size, i.bytes)) = some (some (.agg #[.string ⟨#[]⟩, .slice none 0 0, .slice none 0 0, .slice none 0 0, .slice none 0 0]), 5, 112) := by kernel_rfl

set_option maxHeartbeats 16000000 in
theorem scopeMore_calls (es : List S72) (ns : List S36) (Ae An : Option Addr) (ce cn : Nat) (w : World) (he : k72.C w Ae es.length es) (hn : k36.C w An ns.length ns) (hcn : ns.length ≤ cn) :
    Calls Try.prog 5 #[.agg #[.slice Ae es.length ce, .slice An ns.length cn]] w fun e w' => e = .returned (.bool true) ∧ Below w.heap.size w w' := by
  have HE := Aside0.mk he; have HN := Aside0.mk hn; have HB := Aside0.mk (Below.refl w.heap.size w)
  have hli := fun W => lives_calls W
  have hfi := fun (W : World) (hB : Below w.heap.size w W) => sfind_calls ns Ae An es.length ce cn tmore w W hn hB
  have hck := fun (W : World) (hB : Below w.heap.size w W) => check_calls true es ns Ae An ce cn W (Kd.C_below he hB) (Kd.C_below hn hB)
  have HLAW := Aside0.mk (fun h1 h2 h3 => more_law (es := es) (ns := ns) h1 h2 h3)
  have HFA := Aside0.mk (fun h => findN_append (s := tmore) (l := ns) (n := moreN) h rfl)
  clear he hn
  generalize checkR true es ns = C at hck HLAW
  obtain ⟨c1, c2, c3⟩ := C
  simp only at hck
  have hon : ∀ W, Calls Try.prog 12 #[.agg #[.int .i64 4, .string ⟨#[120]⟩, .int .i64 0, .slice none 0 0, .slice none 0 0]] W (NodeOnePost (⟨4, tx, 0, [], []⟩ : S41) W) := fun W => lone_calls (⟨4, tx, 0, [], []⟩ : S41) W _ (k41_mk W (⟨4, tx, 0, [], []⟩ : S41) (A3 := none) (c3 := 0) (Nat.le_refl 0) (Kd.C_nil _ _) (A4 := none) (c4 := 0) (Nat.le_refl 0) (Kd.C_nil _ _))
  have hu1 := Try.underlying25
  have hu2 := Try.underlying29
  have hu3 := Try.underlying27
  have hu4 := Try.underlying36
  have hu5 := Try.underlying41
  have HU := Aside0.mk Try.underlying23
  have hfd : ∀ (W : World) (a b c : Int), (Instr.field 29 (.agg #[.int .i64 a, .int .i64 b, .int .i64 c]) 0).run Try.prog W = .ok (.int .i64 a) W := fun _ _ _ _ => by kernel_rfl
  have hfd2 : ∀ (W : World) (g : Nat), (Instr.field 25 (.agg #[.slice none 0 0, .slice (some ⟨g, 0, none⟩) 1 1]) 1).run Try.prog W = .ok (.slice (some ⟨g, 0, none⟩) 1 1) W := fun _ _ => by kernel_rfl
  go_enter Try.func5, Try.ntmps5
  go_wp2_with ((with_reducible refine gate_dst (N := 1) rfl ?_); refine box_event ?hg (N := 1) ?hd (cs := #[.slice Ae es.length ce, .slice An ns.length cn]) (t := 25) ?hr ?_; (case hd => rfl); (case hg => rfl); (case hr => first | (go_simp; done) | (go_simp; rfl)); intro g1 hg_ w_ hbox hb; have B1 := Aside0.mk hbox; have LB1 := Aside0.mk ((by rw [hg_]; exact below_size HB.out) : w.heap.size ≤ g1); replace HB := Aside0.mk (below_step HB.out hb); clear hb hbox hg_; have c1_0 := (blk_cell B1.out 0).trans rfl; have c1_1 := (blk_cell B1.out 1).trans rfl)
  refine (hli _).mono ?_
  rintro e w3 ⟨rfl, hb⟩
  replace B1 := Aside0.mk (below_blk B1.out hb)
  replace HB := Aside0.mk (below_step HB.out hb)
  clear hb hli c1_0 c1_1
  have c1_0 := (blk_cell B1.out 0).trans rfl
  have c1_1 := (blk_cell B1.out 1).trans rfl
  go_wp2_with fail
  skip
  refine (hfi _ HB.out).mono ?_
  rintro e w4 ⟨rfl, hb⟩
  replace B1 := Aside0.mk (below_blk B1.out hb)
  replace HB := Aside0.mk (below_step HB.out hb)
  clear hb hfi c1_0 c1_1
  have c1_0 := (blk_cell B1.out 0).trans rfl
  have c1_1 := (blk_cell B1.out 1).trans rfl
  cases hq : findN tmore ns with
  | some i =>
    simp only [Option.isSome_some]
    clear hck HLAW HFA hon
    go_wp2_with fail
    go_ret
    exact ⟨rfl, HB.out⟩
  | none =>
  simp only [Option.isSome_none]
  have HQ := Aside0.mk hq; clear hq
  by_cases hge : (ns.length : Int) ≥ 16
  · clear hck HLAW HFA hon
    go_wp2_with fail
    go_ret
    exact ⟨rfl, HB.out⟩
  go_wp2_with fail
  refine (hck _ HB.out).mono ?_
  rintro e w5 ⟨rfl, hb⟩
  replace B1 := Aside0.mk (below_blk B1.out hb)
  replace HB := Aside0.mk (below_step HB.out hb)
  clear hb hck c1_0 c1_1
  have c1_0 := (blk_cell B1.out 0).trans rfl
  have c1_1 := (blk_cell B1.out 1).trans rfl
  by_cases e0 : c1 ≠ 0
  · have t0 : (c1 != 0) = true := by rw [bne, beq_eq_false_iff_ne.2 e0]; rfl
    clear e0 HLAW HFA hon
    go_wp2_with fail
    go_ret
    exact ⟨rfl, HB.out⟩
  obtain rfl : c1 = 0 := by omega
  have HM := Aside0.mk (HLAW.out rfl (by omega) HQ.out)
  have HF2 := Aside0.mk (HFA.out HQ.out)
  have hlt16 := Aside0.mk (show ns.length < 16 by omega)
  clear HLAW HFA HQ hge
  go_wp2_with fail
  refine (hon _).mono ?_
  rintro e w6 ⟨g, rfl, hC, hb⟩
  replace B1 := Aside0.mk (below_blk B1.out hb)
  replace HB := Aside0.mk (below_step HB.out hb)
  clear hb hon c1_0 c1_1
  obtain ⟨yad, ycs, yE, _, yK, ycc⟩ := Kd.C_get hC z36 ((0 : Nat) : Int) (by decide) (by decide)
  obtain rfl : yad = ⟨g, 0, none⟩ := (Option.some.inj yE).symm
  have yK' := yK
  obtain ⟨yA1, yc1, yA2, yc2, yA3, yc3, yA4, yc4, rfl, yl1, yg1, yl2, yg2, yl3, yg3, yl4, yg4⟩ := k36_open yK'
  have yx0 := ((Below.refl w6.heap.size w6).cell (World.block_lt_of_cell? w6 _ (ycc 0 _ rfl))).trans (ycc 0 _ rfl)
  have yx1 := ((Below.refl w6.heap.size w6).cell (World.block_lt_of_cell? w6 _ (ycc 1 _ rfl))).trans (ycc 1 _ rfl)
  have yx2 := ((Below.refl w6.heap.size w6).cell (World.block_lt_of_cell? w6 _ (ycc 2 _ rfl))).trans (ycc 2 _ rfl)
  have yx3 := ((Below.refl w6.heap.size w6).cell (World.block_lt_of_cell? w6 _ (ycc 3 _ rfl))).trans (ycc 3 _ rfl)
  have yx4 := ((Below.refl w6.heap.size w6).cell (World.block_lt_of_cell? w6 _ (ycc 4 _ rfl))).trans (ycc 4 _ rfl)
  rw [show (k36).sz = 5 from rfl, Nat.add_zero, Int.toNat_natCast] at yx0
  rw [show (k36).sz = 5 from rfl, Int.toNat_natCast, add_field _ _ 1 (by omega)] at yx1
  rw [show (k36).sz = 5 from rfl, Int.toNat_natCast, add_field _ _ 2 (by omega)] at yx2
  rw [show (k36).sz = 5 from rfl, Int.toNat_natCast, add_field _ _ 3 (by omega)] at yx3
  rw [show (k36).sz = 5 from rfl, Int.toNat_natCast, add_field _ _ 4 (by omega)] at yx4
  clear ycc
  try simp only [Int.toNat_natCast] at yx0 yx1 yx2 yx3 yx4 yK yl1 yg1 yl2 yg2 yl3 yg3 yl4 yg4
  generalize Yy0 : [oneN (⟨4, tx, 0, [], []⟩ : S41)].getD 0 z36 = y at yx0 yx1 yx2 yx3 yx4 yK yl1 yg1 yl2 yg2 yl3 yg3 yl4 yg4
  have Yy := Aside0.mk Yy0; clear Yy0
  simp only [Nat.zero_mul, add_zero'] at yx0 yx1 yx2 yx3 yx4
  have hy : y = oneN (⟨4, tx, 0, [], []⟩ : S41) := Yy.out.symm
  subst hy
  have yL1 := Aside0.mk yl1; have yG1 := Aside0.mk yg1; clear yl1 yg1
  have yL2 := Aside0.mk yl2; have yG2 := Aside0.mk yg2; clear yl2 yg2
  have yL3 := Aside0.mk yl3; have yG3 := Aside0.mk yg3; clear yl3 yg3
  have yL4 := Aside0.mk yl4; have yG4 := Aside0.mk yg4; clear yl4 yg4
  have HKM := Aside0.mk (k36_mk w6 moreN yL1.out yG1.out yL2.out yG2.out yL3.out yG3.out yL4.out yG4.out)
  have HN6 := Aside0.mk (Kd.C_below HN.out HB.out)
  have HE6 := Aside0.mk (Kd.C_below HE.out HB.out)
  have HK := Aside0.mk (Below.refl w6.heap.size w6)
  have B16 := B1
  clear yK hC
  go_upto_region 9 with ((with_reducible refine gate_store (t := 36) (p := 6) rfl ?_); refine store_whole rfl rfl 36 _ _ rfl w6.heap.size _ 36 rfl (blk_new _ _) _ rfl rfl rfl (by simp [Value.oneCell']) ?_; intro w2 hb2 hg2; replace HK := Aside0.mk (below_as HK.out hg2); have L6 := Aside0.mk (Nat.le_refl w6.heap.size); obtain ⟨g6, hq_⟩ : ∃ g_, g_ = w6.heap.size := ⟨_, rfl⟩; rw [← hq_] at hb2; rw [← hq_]; replace L6 := Aside0.mk (show w6.heap.size ≤ g6 by rw [hq_]; exact Nat.le_refl _); have c6_0 := (blk_cell hb2 0).trans rfl; have f6_0 := blk_frozen hb2 0; have B6 := Aside0.mk hb2; clear hb2 hg2 hq_)
  clear yx0 yx1 yx2 yx3 yx4 c6_0 f6_0
  have hlt6 : g1 < w6.heap.size := blk_lt B1.out
  have hn16 : g1 ≠ g6 := by have := L6.out; omega
  have B1s := Aside0.mk (blk_far (below_blk B1.out HK.out) (p := ⟨g6, 0, none⟩) hn16 (.string ⟨#[109, 111, 114, 101]⟩))
  have B6s := Aside0.mk (show (w2.setCell ⟨g6, 0, none⟩ (.string ⟨#[109, 111, 114, 101]⟩)).heap[g6]? = some (.cells #[.string ⟨#[109, 111, 114, 101]⟩, .slice yA1 ((oneN (⟨4, tx, 0, [], []⟩ : S41)).f1).length yc1, .slice yA2 ((oneN (⟨4, tx, 0, [], []⟩ : S41)).f2).length yc2, .slice yA3 ((oneN (⟨4, tx, 0, [], []⟩ : S41)).f3).length yc3, .slice yA4 ((oneN (⟨4, tx, 0, [], []⟩ : S41)).f4).length yc4] 36 (0, 0)) from blk_put (cs := #[.string (oneN (⟨4, tx, 0, [], []⟩ : S41)).f0, .slice yA1 ((oneN (⟨4, tx, 0, [], []⟩ : S41)).f1).length yc1, .slice yA2 ((oneN (⟨4, tx, 0, [], []⟩ : S41)).f2).length yc2, .slice yA3 ((oneN (⟨4, tx, 0, [], []⟩ : S41)).f3).length yc3, .slice yA4 ((oneN (⟨4, tx, 0, [], []⟩ : S41)).f4).length yc4]) B6.out 0 (.string ⟨#[109, 111, 114, 101]⟩) rfl)
  have HKs := Aside0.mk (below_set (g := g6) (j := 0) (v := .string ⟨#[109, 111, 114, 101]⟩) HK.out L6.out)
  clear B6 HK B1
  generalize w2.setCell ⟨g6, 0, none⟩ (.string ⟨#[109, 111, 114, 101]⟩) = w8 at B1s B6s HKs ⊢
  have B1 := B1s; have B6 := B6s; have HK := HKs; clear B1s B6s HKs
  have c1_0 := (blk_cell B1.out 0).trans rfl
  have c1_1 := (blk_cell B1.out 1).trans rfl
  go_upto_region 10 with ((with_reducible refine gate_store (t := 25) (p := 7) rfl ?_); refine store_whole rfl rfl 25 _ _ rfl w8.heap.size _ 25 rfl (blk_new _ _) _ rfl rfl rfl (by simp [Value.oneCell']) ?_; intro w2 hb2 hg2; replace B1 := Aside0.mk (blk_as B1.out hg2); replace B6 := Aside0.mk (blk_as B6.out hg2); have L7 := Aside0.mk HK.out.size; replace HK := Aside0.mk (below_as HK.out hg2); obtain ⟨g7, hq_⟩ : ∃ g_, g_ = w8.heap.size := ⟨_, rfl⟩; rw [← hq_] at hb2; rw [← hq_]; replace L7 := Aside0.mk (show w6.heap.size ≤ g7 by rw [hq_]; exact L7.out); have B7 := Aside0.mk hb2; clear hb2 hg2 hq_)
  clear c1_0 c1_1
  have hn71 : g1 ≠ g7 := by have := L7.out; omega
  have hn76 : g6 ≠ g7 := by intro e; have := B6.out; rw [e, B7.out] at this; cases this
  obtain ⟨w9, hw9⟩ : ∃ W, W = w2 := ⟨_, rfl⟩
  rw [← hw9] at B1 B6 B7 HK ⊢
  clear hw9
  go_cut [44] from 39 to 45 (fun s44 wx => ∃ A c, s44 = .slice A (ns.length + 1) c ∧ Aside0 (k36.C wx A (ns.length + 1) (ns ++ [moreN])) ∧ Aside0 (Below w6.heap.size w6 wx) ∧ Aside0 (wx.heap[g7]? = some (.cells #[.slice Ae es.length ce, .slice A (ns.length + 1) c] 25 (0, 0))))
  case first =>
    have c1_0 := (blk_cell B1.out 0).trans rfl
    have c1_1 := (blk_cell B1.out 1).trans rfl
    have c6_0 := (blk_cell B6.out 0).trans rfl
    have c6_1 := (blk_cell B6.out 1).trans rfl
    have c6_2 := (blk_cell B6.out 2).trans rfl
    have c6_3 := (blk_cell B6.out 3).trans rfl
    have c6_4 := (blk_cell B6.out 4).trans rfl
    have d1 := fun o => (blk_cell (blk_alloc B1.out o) 1).trans rfl
    go_region_law (first | (refine Kd.R_append_rows_step (kRead w6 k36) (Rr := k36.K w6) (w0 := w6) w6.heap.size (by rfl) (.const (.slice none 0 0)) (.tmp 40) 23 36 (.agg #[.string ⟨#[]⟩, .slice none 0 0, .slice none 0 0, .slice none 0 0, .slice none 0 0]) 112 rfl HU.out info36 rfl (by show 0 < 5; decide) (by omega) (.slice none 0 0) ([] : List S36) ns An ns.length cn (fun k => k ≠ g7) (fun _ => False) (by rfl) (by rfl) (Kd.R_nil _ _ _ _ _) (kRead_row HN6.out (by repeat (first | exact HK.out | apply below_alloc | apply below_drew1))) (fun _ _ h => h) (fun _ h => h.elim) (fresh_ne (by first | exact B7.out | exact blk_at B7.out)) (by repeat (first | exact HK.out | apply below_alloc | apply below_drew1)) ((by repeat (first | exact HK.out | apply below_alloc | apply below_drew1)) : Below w6.heap.size w6 _).size (by have := hlt16.out; simp only [List.length_nil]; omega) ?_; intro v1 w10 ho_ hb_ hg_ hat_; have HO10 := Aside0.mk ho_; have HK10 := Aside0.mk hb_; have HG10 := Aside0.mk hg_; have B6n := Aside0.mk (grown_none hg_ rfl (by first | exact B6.out | exact blk_at B6.out)); have B7n := Aside0.mk (grown_none hg_ rfl (by first | exact B7.out | exact blk_at B7.out)); clear ho_ hb_ hg_ hat_; obtain ⟨Ao, co, rfl⟩ := Kd.R_slice HO10.out; have cn6_0 := (blk_cell B6n.out 0).trans rfl; have cn6_1 := (blk_cell B6n.out 1).trans rfl; have cn6_2 := (blk_cell B6n.out 2).trans rfl; have cn6_3 := (blk_cell B6n.out 3).trans rfl; have cn6_4 := (blk_cell B6n.out 4).trans rfl) | (refine Kd.R_append_rows_step (kRead w6 k36) (Rr := k36.K w6) (w0 := w6) w6.heap.size (by rfl) (.tmp 41) (.tmp 43) 23 36 (.agg #[.string ⟨#[]⟩, .slice none 0 0, .slice none 0 0, .slice none 0 0, .slice none 0 0]) 112 rfl HU.out info36 rfl (by show 0 < 5; decide) (by omega) (.slice Ao (([] : List S36) ++ ns).length co) (([] : List S36) ++ ns) [moreN] (some ⟨w10.heap.size, 0, none⟩) 1 1 (fun k => k ≠ g7) (fun _ => False) (by rfl) (by rfl) (Kd.R_below HO10.out (below_alloc (Below.refl _ _) _)) (lit_one (d := kRead w6 k36) (blk_new w10 _) HKM.out) (fun _ _ h => h) (fun _ h => h.elim) (fresh_ne (blk_at B7n.out)) (below_al HK10.out) ((below_al HK10.out) : Below w6.heap.size w6 _).size (by have := hlt16.out; simp only [List.nil_append]; omega) ?_; intro v2 w11 ho_ hb_ hg_ hat_; have HO11 := Aside0.mk ho_; have HK11 := Aside0.mk hb_; have B7x := Aside0.mk (grown_ok (Kd.R_below HO10.out (below_alloc (Below.refl _ _) _)) hg_ (blk_at B7n.out)); clear ho_ hb_ hg_ hat_; obtain ⟨A2, c2_, hv2⟩ := Kd.R_slice HO11.out; rw [show ((([] : List S36) ++ ns) ++ [moreN]).length = ns.length + 1 by simp] at hv2; subst hv2; have c7_1 := (blk_cell B7x.out 1).trans rfl; have f7_1 := blk_frozen B7x.out 1) | (refine Kd.R_append_rows_step (kRead w6 k36) (Rr := k36.K w6) (w0 := w6) w6.heap.size (by rfl) (.tmp 41) (.tmp 43) 23 36 (.agg #[.string ⟨#[]⟩, .slice none 0 0, .slice none 0 0, .slice none 0 0, .slice none 0 0]) 112 rfl HU.out info36 rfl (by show 0 < 5; decide) (by omega) (.slice Ao (([] : List S36) ++ ns).length co) (([] : List S36) ++ ns) [moreN] (some ⟨w9.heap.size, 0, none⟩) 1 1 (fun k => k ≠ g7) (fun _ => False) (by rfl) (by rfl) HO10.out (lit_one (d := kRead w6 k36) (grown_none HG10.out rfl (blk_new w9.drew _)) HKM.out) (fun _ _ h => h) (fun _ h => h.elim) (fresh_ne B7n.out) HK10.out (HK10.out : Below w6.heap.size w6 _).size (by have := hlt16.out; simp only [List.nil_append]; omega) ?_; intro v2 w11 ho_ hb_ hg_ hat_; have HO11 := Aside0.mk ho_; have HK11 := Aside0.mk hb_; have B7x := Aside0.mk (grown_ok HO10.out hg_ B7n.out); clear ho_ hb_ hg_ hat_; obtain ⟨A2, c2_, hv2⟩ := Kd.R_slice HO11.out; rw [show ((([] : List S36) ++ ns) ++ [moreN]).length = ns.length + 1 by simp] at hv2; subst hv2; have c7_1 := (blk_cell B7x.out 1).trans rfl; have f7_1 := blk_frozen B7x.out 1))
    all_goals
      go_wp2_with fail
      go_meet
      case rel =>
        have HBf := below_set (g := g7) (j := 1) (v := .slice A2 (ns.length + 1) c2_) HK11.out L7.out
        have HRf := Kd.R_step HO11.out (fun k hk _ => Below.heap_setCell w11 ⟨g7, 1, none⟩ (.slice A2 (ns.length + 1) c2_) k hk)
        have hC := kRead_C (Kd.R_reads' HRf).2.2 HBf
        rw [List.nil_append, show (ns ++ [moreN]).length = ns.length + 1 by simp] at hC
        exact ⟨A2, c2_, rfl, ⟨hC⟩, ⟨HBf⟩, ⟨blk_put (cs := #[.slice Ae es.length ce, .slice An ns.length cn]) B7x.out 1 (.slice A2 (ns.length + 1) c2_) rfl⟩⟩
  case rest =>
    clear B1 B6 B7 HK
    obtain ⟨A, c, rfl, HC, HK, B7⟩ := hcut
    have B1 := Aside0.mk (below_blk B16.out HK.out)
    replace HB := Aside0.mk (below_step HB.out HK.out)
    have hlen : (ns ++ [moreN]).length = ns.length + 1 := by simp
    have hf2 : ∀ W, k36.C W A (ns.length + 1) (ns ++ [moreN]) → Calls Try.prog 11 #[.agg #[.slice Ae es.length ce, .slice A (ns.length + 1) c], .string tmore] W fun e w' => e = .returned (.tuple #[.int .i64 (ns.length : Nat), .bool true]) ∧ Below W.heap.size W w' := fun W hC => by have h := sfind_calls (ns ++ [moreN]) Ae A es.length ce c tmore W W (by rw [hlen]; exact hC) (Below.refl _ _); rw [HF2.out, hlen] at h; exact h
    have hk2 : ∀ W, k36.C W A (ns.length + 1) (ns ++ [moreN]) → Below w6.heap.size w6 W → Calls Try.prog 8 #[.agg #[.slice Ae es.length ce, .slice A (ns.length + 1) c], .bool true] W fun e w' => e = .returned (.agg #[.int .i64 0, .int .i64 0, .int .i64 0]) ∧ Below W.heap.size W w' := fun W hC hB => by have h := check_calls true es (ns ++ [moreN]) Ae A ce c W (Kd.C_below HE6.out hB) (by rw [hlen]; exact hC); rw [HM.out, hlen] at h; exact h
    have c7_0 := (blk_cell B7.out 0).trans rfl
    have c7_1 := (blk_cell B7.out 1).trans rfl
    go_wp2_with fail
    refine (hf2 _ HC.out).mono ?_
    rintro e w12 ⟨rfl, hb⟩
    replace HC := Aside0.mk (Kd.C_below HC.out hb)
    replace B7 := Aside0.mk (below_blk B7.out hb)
    replace B1 := Aside0.mk (below_blk B1.out hb)
    replace HK := Aside0.mk (below_step HK.out hb)
    replace HB := Aside0.mk (below_step HB.out hb)
    clear hb hf2 c7_0 c7_1
    have c7_0 := (blk_cell B7.out 0).trans rfl
    have c7_1 := (blk_cell B7.out 1).trans rfl
    go_wp2_with fail
    refine (hk2 _ HC.out HK.out).mono ?_
    rintro e w13 ⟨rfl, hb⟩
    replace B1 := Aside0.mk (below_blk B1.out hb)
    replace HB := Aside0.mk (below_step HB.out hb)
    clear hb hk2 c7_0 c7_1
    have c1_0 := (blk_cell B1.out 0).trans rfl
    have c1_1 := (blk_cell B1.out 1).trans rfl
    go_wp2_with fail
    go_ret
    exact ⟨rfl, HB.out⟩

end Go.Proofs.Ytcekbkbhaceilaa
