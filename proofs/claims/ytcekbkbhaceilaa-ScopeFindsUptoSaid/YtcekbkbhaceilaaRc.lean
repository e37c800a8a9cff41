/- Package scope: a constructor's enum; the law ScopeFinds: its walk. -/
import Derived.Test.YtcekbkbhaceilaaRa
import Derived.Test.YtcekbkbhaceilaaRb
import Derived.Deep.RegionWith
namespace Go.Proofs.Ytcekbkbhaceilaa
open Go Go.RowKit Go.Lib Go.Proofs.YtcekbkbhaceilaaW.PrintWords Go.Proofs.Ytcekbkbhaceilaa.PScope
set_option maxRecDepth 100000
set_option linter.unusedSimpArgs false
set_option linter.unusedVariables false

theorem index_calls (A : Option Addr) (c : Nat) (l : List ByteArray) (s : ByteArray) (w : World) (hC : Kd.string.C w A l.length l) (hc : l.length ≤ c) :
    Calls Try.prog 26 #[.slice A l.length c, .string s] w fun e w' => e = .returned (.int .i64 (findI 0 (findS s l))) ∧ Below w.heap.size w w' := by
  refine (slices_Index_string_string.calls (l.length + 1) A c l s _ w hC hc (index_eq l s hC.2.1)).mono ?_
  rintro e w' ⟨rfl, h⟩
  refine ⟨rfl, ?_⟩
  first | exact h.below | exact h
theorem conE_none {s : ByteArray} {l : List S72} {k : Nat} {y : S72} (h : k < l.length) (e : l.getD k z72 = y) (hd : findS s y.f1 = none) : conE s (l.drop k) k = conE s (l.drop (k + 1)) (k + 1) := by
  rw [drop_getD2 l z72 k h, e, conE, hd]
theorem conE_some {s : ByteArray} {l : List S72} {k j : Nat} {y : S72} (h : k < l.length) (e : l.getD k z72 = y) (hd : findS s y.f1 = some j) : conE s (l.drop k) k = ((k : Int), (j : Int), true) := by
  rw [drop_getD2 l z72 k h, e, conE, hd]

set_option maxHeartbeats 8000000 in
theorem con_find_calls (es : List S72) (Ae An : Option Addr) (ce nn cn : Nat) (s : ByteArray) (w : World) (hE : k72.C w Ae es.length es) :
    Calls Try.prog 13 #[.agg #[.slice Ae es.length ce, .slice An nn cn], .string s] w fun e w' => e = .returned (.tuple #[.int .i64 (conR es s).1, .int .i64 (conR es s).2.1, .bool (conR es s).2.2]) ∧ Below w.heap.size w w' := by
  have HE := Aside0.mk hE; have HB := Aside0.mk (Below.refl w.heap.size w)
  clear hE
  have HS := Aside0.mk (fun c => F0_some (s := s) (c := c) es)
  have HZ := Aside0.mk (F0_none (s := s) es)
  have hbe := fun W => begin_calls Ae An es.length ce nn cn W
  generalize conR es s = R at HS HZ ⊢
  have hu1 := Try.underlying25
  have hu2 := Try.underlying63
  have hu3 := Try.underlying69
  have hu4 := Try.underlying72
  have hm2 := Try.underlying60
  have hk := Try.underlying9
  have hz2 : ∀ W, (zeroValue 69).run Try.prog W = .ok (.agg #[.int .i64 0, .int .i64 0]) W := fun W => by kernel_rfl
  go_enter Try.func13, Try.ntmps13
  go_wp2_with ((with_reducible refine gate_dst (N := 2) rfl ?_); refine box_event ?hg (N := 2) ?hd (cs := #[.slice Ae es.length ce, .slice An nn cn]) (t := 25) ?hr ?_; (case hd => rfl); (case hg => rfl); (case hr => first | (go_simp; done) | (go_simp; rfl)); intro g2 hg_ w_ hbox hb; have B2 := Aside0.mk hbox; have LB2 := Aside0.mk ((by rw [hg_]; exact below_size HB.out) : w.heap.size ≤ g2); replace HB := Aside0.mk (below_step HB.out hb); clear hb hbox hg_; have c2_0 := (blk_cell B2.out 0).trans rfl; have c2_1 := (blk_cell B2.out 1).trans rfl)
  refine (hbe _).mono ?_
  rintro e w3 ⟨B, rfl, hw, hm, hb⟩
  have HW := Aside0.mk hw; have HM := Aside0.mk hm
  replace B2 := Aside0.mk (below_blk B2.out hb)
  replace HB := Aside0.mk (below_step HB.out hb)
  clear hb hw hm hbe c2_0 c2_1
  have cw0 := (blk_cell HW.out.wd 0).trans rfl
  have cw1 := (blk_cell HW.out.wd 1).trans rfl
  have cw2 := (blk_cell HW.out.wd 2).trans rfl
  have cw3 := (blk_cell HW.out.wd 3).trans rfl
  have cw4 := (blk_cell HW.out.wd 4).trans rfl
  have cw5 := (blk_cell HW.out.wd 5).trans rfl
  have hgd : ∃ c : Int × Int, (menc encP F0 s).getD (.agg #[.int .i64 0, .int .i64 0]) = .agg #[.int .i64 c.1, .int .i64 c.2] ∧ ∀ d, F0 s = some d → d = c := by unfold menc; cases F0 s with | none => exact ⟨(0, 0), rfl, fun d h => by cases h⟩ | some y => exact ⟨y, rfl, fun d h => by cases h; rfl⟩
  obtain ⟨cc, hcc, hcd⟩ := hgd
  have HCC := Aside0.mk hcc; have HCD := Aside0.mk hcd
  have HQ := Aside0.mk (menc_isSome encP F0 s)
  clear hcc hcd
  cases hF : F0 s with
  | some c =>
    have HQ2 := Aside0.mk (show (menc encP F0 s).isSome = true by rw [HQ.out, hF]; rfl)
    have HR := Aside0.mk (HS.out c hF)
    have hce := (HCD.out c hF).symm
    subst hce
    clear hF HS HZ HQ
    go_wp2_with (first | (at_lookup; refine look_str_ok rfl _ _ 60 rfl 9 69 hm2 hk _ (hz2 _) B.cons _ rfl HM.out s rfl (.agg #[.int .i64 cc.1, .int .i64 cc.2]) true HCC.out HQ2.out ?_) | ((with_reducible refine gate_store (t := 69) (p := 7) rfl ?_); refine store_whole rfl rfl 69 _ _ rfl w3.heap.size _ 69 rfl (blk_new _ _) _ rfl rfl rfl (by simp [Value.oneCell']) ?_; intro w4 hb2 hg2; replace B2 := Aside0.mk (blk_as B2.out hg2); replace HB := Aside0.mk (below_as HB.out hg2); obtain ⟨g7, hq_⟩ : ∃ g_, g_ = w3.heap.size := ⟨_, rfl⟩; rw [← hq_] at hb2; rw [← hq_]; have B7 := Aside0.mk hb2; clear hb2 hg2 hq_; have c7_0 := (blk_cell B7.out 0).trans rfl; have c7_1 := (blk_cell B7.out 1).trans rfl))
    go_quiet (fail)
    have HB_ := Aside0.mk (pw_below_drewN HB.out nq); clear HB
    skip
    go_wp2_with fail
    go_ret3
    exact ⟨by rw [HR.out]; rfl, HB_.out⟩
  | none =>
  have HQ2 := Aside0.mk (show (menc encP F0 s).isSome = false by rw [HQ.out, hF]; rfl)
  have HR := Aside0.mk (HZ.out hF)
  clear hF HS HZ HQ
  have c2_0 := (blk_cell B2.out 0).trans rfl
  have c2_1 := (blk_cell B2.out 1).trans rfl
  go_wp2_with (first | (at_lookup; refine look_str_ok rfl _ _ 60 rfl 9 69 hm2 hk _ (hz2 _) B.cons _ rfl HM.out s rfl (.agg #[.int .i64 cc.1, .int .i64 cc.2]) false HCC.out HQ2.out ?_) | ((with_reducible refine gate_store (t := 69) (p := 7) rfl ?_); refine store_whole rfl rfl 69 _ _ rfl w3.heap.size _ 69 rfl (blk_new _ _) _ rfl rfl rfl (by simp [Value.oneCell']) ?_; intro w4 hb2 hg2; replace B2 := Aside0.mk (blk_as B2.out hg2); replace HB := Aside0.mk (below_as HB.out hg2); obtain ⟨g7, hq_⟩ : ∃ g_, g_ = w3.heap.size := ⟨_, rfl⟩; rw [← hq_] at hb2; rw [← hq_]; have B7 := Aside0.mk hb2; clear hb2 hg2 hq_; clear c2_0 c2_1; have c2_0 := (blk_cell B2.out 0).trans rfl; have c2_1 := (blk_cell B2.out 1).trans rfl; have c7_0 := (blk_cell B7.out 0).trans rfl; have c7_1 := (blk_cell B7.out 1).trans rfl))
  clear c2_0 c2_1 c7_0 c7_1 cw0 cw1 cw2 cw3 cw4 cw5
  have HC0 := Aside0.mk (show conE s (es.drop 0) 0 = R by rw [List.drop_zero, HR.out])
  clear HR B7 HW HM HCC HCD HQ2 B2
  go_loopg [30] es.length (fun gg s_ wr => ∃ (kka : Nat), kka ≤ es.length ∧ es.length - kka ≤ gg ∧ s_ = .int .i64 kka ∧ Aside0 (Below w.heap.size w wr) ∧ Aside0 (conE s (es.drop kka) kka = R))
  case atStart => exact ⟨0, Nat.zero_le _, by omega, rfl, HB, HC0⟩
  case round =>
    clear HB
    obtain ⟨kka, hkka, hgkka, rfl, HB, HCK⟩ := hrel
    have hmxa : es.length ≤ 9223372036854775807 := (HE.out).2.1
    by_cases hlta : kka < es.length
    · have hltza : (kka : Int) < (es.length : Int) := by omega
      have hno := conE_none (s := s) (l := es) (k := kka) hlta rfl
      have hye := fun j => conE_some (s := s) (l := es) (k := kka) (j := j) hlta rfl
      obtain ⟨yad, ycs, rfl, _, yK, ycc⟩ := Kd.C_get HE.out z72 (kka : Int) (by omega) (by omega)
      have yK' := yK
      obtain ⟨yA1, yc1, rfl, yl1, yg1⟩ := k72_open yK'
      have yx0 := (HB.out.cell (World.block_lt_of_cell? w _ (ycc 0 _ rfl))).trans (ycc 0 _ rfl)
      have yx1 := (HB.out.cell (World.block_lt_of_cell? w _ (ycc 1 _ rfl))).trans (ycc 1 _ rfl)
      rw [show (k72).sz = 2 from rfl, Nat.add_zero, Int.toNat_natCast] at yx0
      rw [show (k72).sz = 2 from rfl, Int.toNat_natCast, add_field _ _ 1 (by omega)] at yx1
      clear ycc
      try simp only [Int.toNat_natCast] at yx0 yx1 yK yl1 yg1
      generalize Yy0 : es.getD kka z72 = y at hno hye yx0 yx1 yK yl1 yg1
      have Yy := Aside0.mk Yy0; clear Yy0
      have yL1 := Aside0.mk yl1; have yG1 := Aside0.mk yg1; clear yl1 yg1
      have HNO := Aside0.mk hno; have HYE := Aside0.mk hye
      clear hno hye yK
      have hix := fun (W : World) (hB : Below w.heap.size w W) => index_calls _ yc1 y.f1 s W (Kd.C_below yG1.out hB) yL1.out
      cases hf : findS s y.f1 with
      | some j =>
        rw [hf] at hix
        have HR := Aside0.mk ((HYE.out j hf).symm.trans HCK.out)
        have hj : findI 0 (some j) = (j : Int) := by unfold findI; simp
        rw [hj] at hix
        have hjn : (j : Int) ≥ 0 := by omega
        clear hf hj HNO HYE
        go_wp2_with ((with_reducible refine gate_store (t := 72) (p := 10) rfl ?_); refine store_whole rfl rfl 72 _ _ rfl wr.heap.size _ 72 rfl (blk_new _ _) _ rfl rfl rfl (by simp [Value.oneCell']) ?_; intro w2 hb2 hg2; replace HB := Aside0.mk (below_as HB.out hg2); obtain ⟨g10, hq_⟩ : ∃ g_, g_ = wr.heap.size := ⟨_, rfl⟩; rw [← hq_] at hb2; rw [← hq_]; have B10 := Aside0.mk hb2; clear hb2 hg2 hq_; have c10_0 := (blk_cell B10.out 0).trans rfl; have c10_1 := (blk_cell B10.out 1).trans rfl)
        refine (hix _ HB.out).mono ?_
        rintro e w8 ⟨rfl, hb⟩
        replace HB := Aside0.mk (below_step HB.out hb)
        clear hb hix c10_0 c10_1
        go_wp2_with fail
        go_ret3
        exact ⟨by rw [← HR.out]; rfl, HB.out⟩
      | none =>
        rw [hf] at hix
        have HCK2 := Aside0.mk ((HNO.out hf).symm.trans HCK.out)
        have hj : findI 0 none = (-1 : Int) := rfl
        rw [hj] at hix
        clear hf hj HNO HYE
        go_wp2_with ((with_reducible refine gate_store (t := 72) (p := 10) rfl ?_); refine store_whole rfl rfl 72 _ _ rfl wr.heap.size _ 72 rfl (blk_new _ _) _ rfl rfl rfl (by simp [Value.oneCell']) ?_; intro w2 hb2 hg2; replace HB := Aside0.mk (below_as HB.out hg2); obtain ⟨g10, hq_⟩ : ∃ g_, g_ = wr.heap.size := ⟨_, rfl⟩; rw [← hq_] at hb2; rw [← hq_]; have B10 := Aside0.mk hb2; clear hb2 hg2 hq_; have c10_0 := (blk_cell B10.out 0).trans rfl; have c10_1 := (blk_cell B10.out 1).trans rfl)
        refine (hix _ HB.out).mono ?_
        rintro e w8 ⟨rfl, hb⟩
        replace HB := Aside0.mk (below_step HB.out hb)
        clear hb hix B10 c10_0 c10_1
        go_wp2_with fail
        go_roundg (es.length - (kka + 1))
        case measure => omega
        case rel => exact ⟨kka + 1, by omega, by omega, by go_num, HB, HCK2⟩
    · have hltza : ¬ (kka : Int) < (es.length : Int) := by omega
      obtain rfl : kka = es.length := by omega
      have HR := Aside0.mk (show R = (0, 0, false) by rw [← HCK.out, List.drop_length]; rfl)
      go_wp2_with fail
      go_ret3
      exact ⟨by rw [HR.out]; rfl, HB.out⟩

end Go.Proofs.Ytcekbkbhaceilaa
