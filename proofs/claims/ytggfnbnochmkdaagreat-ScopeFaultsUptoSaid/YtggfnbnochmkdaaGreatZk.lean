/- The reference: a program's first fault is the checker's. -/
import Derived.Test.YtggfnbnochmkdaaGreatZj
import Derived.Test.YtggfnbnochmkdaaGreatQj
namespace Go.Proofs.YtggfnbnochmkdaaGreat
open Go Go.RowKit Go.Lib Go.Proofs.YtggfnbnochmkdaaGreatW.PrintWords Go.Proofs.YtggfnbnochmkdaaGreat.PScope
set_option maxRecDepth 100000
set_option linter.unusedSimpArgs false
set_option linter.unusedVariables false
structure ProgSz (es : List S38) (ns : List S35) : Prop where
 cl : ∀ t, t ∈ es → t.f1.length ≤ 1048576
 hx : ∀ k, k < ns.length → (ndEx (ns.getD k z35)).length ≤ 4194304
 hq : ∀ n ∈ ns, qNd n
 nz : ∀ (made : Bool) (k : Nat), k < ns.length → nodeB made (ns.getD k z35) = true → NodeSz ns k (ns.getD k z35)
theorem right_node {made : Bool} {es : List S38} {ns : List S35} (h : rightP es ns made = 0) : ∀ i, i < ns.length → nodeB made (ns.getD i z35) = true := by
 intro i hi
 unfold rightP at h
 by_cases hp : programB made es ns = true
 · unfold programB at hp
   simp only [Bool.and_eq_true] at hp
   exact notany_at hp.2.2.2.2 z35 i hi
 · rw [if_neg hp] at h; omega
theorem runNodes_at {es : List S38} {ns l : List S35} {m : Mp} {k : Nat} (h : k < l.length) : runNodes es ns m (l.drop k) k = if (nodeR es ns m (l.getD k z35)).2.1 = true then (4, (k : Int), (nodeR es ns m (l.getD k z35)).1) else runNodes es ns (nodeM (nodeR es ns m (l.getD k z35)).2.2 (l.getD k z35) k) (l.drop (k + 1)) (k + 1) := by
 rw [drop_getD2 l z35 k h, runNodes]
set_option maxHeartbeats 16000000 in
theorem zcheck_calls (made : Bool) (es : List S38) (ns : List S35) (Ae An : Option Addr) (ce cn : Nat) (w : World) (he : k38.C w Ae es.length es) (hce : es.length ≤ ce) (hn : k35.C w An ns.length ns) (hcn : ns.length ≤ cn) (hz : ProgSz es ns) :
   Calls Tryz.prog 7 #[.agg #[.slice Ae es.length ce, .slice An ns.length cn], .bool made] w fun e w' => e = .returned (.agg #[.int .i64 (checkR made es ns).1, .int .i64 (checkR made es ns).2.1, .int .i64 (checkR made es ns).2.2]) ∧ Below w.heap.size w w' := by
 have HE := Aside0.mk he; have HN := Aside0.mk hn
 have HB := Aside0.mk (Below.refl w.heap.size w)
 have hri := fun (W : World) (hB : Below w.heap.size w W) => rright_calls made es ns Ae An ce cn W (Kd.C_below he hB) (Kd.C_below hn hB) hz.hx
 rw [right_same made es ns hz.hq] at hri
 have hen := fun (W : World) (hB : Below w.heap.size w W) (i : Nat) (hi : i < es.length) => zenum_calls es ns Ae An ce cn i W (Kd.C_below he hB) hce hi hz.cl
 have hnd := fun (W : World) (hB : Below w.heap.size w W) (hr : rightP es ns made = 0) (k : Nat) (hk : k < ns.length) (m : Mp) (hm : TiedK es ns k m) => znode2_calls made es ns Ae An ce cn k W (Kd.C_below he hB) hce (Kd.C_below hn hB) hcn hk (ns.getD k z35) rfl m hm (nodes_fit hr k hk) (hz.nz made k hk (right_node hr k hk))
 have HR := Aside0.mk (show checkR made es ns = (if rightP es ns made = 0 then scopeE es ns (runEnums m0 es 0) else (rightP es ns made, 0, 0)) from rfl)
 generalize checkR made es ns = C at HR ⊢
 generalize rightP es ns made = r at hri hnd HR
 clear he hn hz
 have hu1 := Tryz.underlying25
 have hu7 := Tryz.underlying27
 have HUF := Aside0.mk Tryz.underlying29; have huf := HUF.out
 go_enter Tryz.func7, Tryz.ntmps7
 go_upto_region 1 with ((with_reducible refine gate_dst (N := 2) rfl ?_); refine box_event ?hg (N := 2) ?hd (cs := #[.slice Ae es.length ce, .slice An ns.length cn]) (t := 25) ?hr ?_; (case hd => rfl); (case hg => rfl); (case hr => first | (go_simp; done) | (go_simp; rfl)); intro g2 hg_ w3 hbox hb; have B2 := Aside0.mk hbox; have LB2 := Aside0.mk ((by rw [hg_]; exact below_size HB.out) : w.heap.size ≤ g2); replace HB := Aside0.mk (below_step HB.out hb); clear hb hbox hg_)
 have Q4 := Aside0.mk (blk_new w3 (.cells #[.int .i64 0, .int .i64 0, .int .i64 0] 29 (0, 0)))
 replace B2 := Aside0.mk (blk_alloc B2.out (.cells #[.int .i64 0, .int .i64 0, .int .i64 0] 29 (0, 0)))
 have L4 := Aside0.mk (HB.out.size)
 replace HB := Aside0.mk (below_alloc HB.out (.cells #[.int .i64 0, .int .i64 0, .int .i64 0] 29 (0, 0)))
 generalize hg4 : w3.heap.size = g4 at Q4 L4 ⊢
 clear hg4
 generalize w3.alloc (.cells #[.int .i64 0, .int .i64 0, .int .i64 0] 29 (0, 0)) = w4 at Q4 B2 HB ⊢
 have c2_0 := (blk_cell B2.out 0).trans rfl
 have c2_1 := (blk_cell B2.out 1).trans rfl
 go_wp2_with fail
 with_reducible refine (hri _ HB.out).mono ?_
 rintro e w5 ⟨rfl, hb_⟩
 replace B2 := Aside0.mk (below_blk B2.out hb_)
 replace Q4 := Aside0.mk (below_blk Q4.out hb_)
 replace HB := Aside0.mk (below_step HB.out hb_)
 clear hb_ hri c2_0 c2_1
 have HK := Aside0.mk (Below.refl w5.heap.size w5)
 by_cases e0 : r ≠ 0
 · have t0 : (r != 0) = true := by rw [bne, beq_eq_false_iff_ne.2 e0]; rfl
   have HF := Aside0.mk (show C = (r, 0, 0) by rw [HR.out, if_neg e0])
   clear e0
   go_wp2_with ((with_reducible refine gate_store (t := 29) (p := 4) rfl ?_); refine store_whole rfl rfl 29 _ _ rfl g4 _ 29 rfl (below_blk Q4.out HK.out) _ rfl rfl rfl (by simp [Value.oneCell']) ?_; intro wf hbf hgf; have HBF := Aside0.mk hbf; have HGF := Aside0.mk hgf; clear hbf hgf)
   refine bodyPost_ret (results_c1 rfl _ _ g4 29 _ (0, 0) _ rfl HBF.out HUF.out rfl rfl) rfl ?_
   exact ⟨by rw [HF.out], (below_step HB.out HK.out).grown HGF.out (below_step HB.out HK.out).size (fun k hk => by cases hk; exact L4.out)⟩
 obtain rfl : r = 0 := by omega
 have HF := Aside0.mk (show C = scopeE es ns (runEnums m0 es 0) by rw [HR.out]; rfl)
 clear HR
 have hnd2 := fun (W : World) (hB : Below w.heap.size w W) => hnd W hB rfl
 clear hnd
 have HE0 := Aside0.mk (show runEnums m0 (es.drop 0) 0 = runEnums m0 es 0 by rw [List.drop_zero])
 generalize runEnums m0 es 0 = R at HF HE0
 have HT0 := Aside0.mk (tiedE_zero es)
 go_wp2_with fail
 go_loopg [6] es.length (fun gg s_ wr => ∃ (kk : Nat) (mk : Mp), kk ≤ es.length ∧ es.length - kk ≤ gg ∧ s_ = .int .i64 kk ∧ Aside0 (Below w5.heap.size w5 wr) ∧ Aside0 (TiedE es kk mk) ∧ Aside0 (runEnums mk (es.drop kk) kk = R))
 case atStart => exact ⟨0, m0, Nat.zero_le _, by omega, rfl, HK, HT0, HE0⟩
 case round =>
   clear HK HT0 HE0
   obtain ⟨kk, mk, hkk, hg, rfl, HK, TE, RE⟩ := hrel
   have hmx : es.length ≤ 9223372036854775807 := (HE.out).2.1
   have HBr := Aside0.mk (below_step HB.out HK.out)
   have B2x := Aside0.mk (below_blk B2.out HK.out)
   have c2_0 := (blk_cell B2x.out 0).trans rfl
   have c2_1 := (blk_cell B2x.out 1).trans rfl
   by_cases hlt : kk < es.length
   · have hltz : (kk : Int) < (es.length : Int) := by omega
     have hd := fun (W : World) (hB : Below w.heap.size w W) => hen W hB kk hlt
     have HDT := Aside0.mk (enum_tied TE.out (es.getD kk z38))
     rw [HDT.out] at hd
     have HNO := Aside0.mk (runEnums_no (m := mk) hlt rfl kk)
     have HYES := Aside0.mk (runEnums_yes (m := mk) hlt rfl kk)
     have HTS := Aside0.mk (tiedE_step TE.out hlt)
     generalize es.getD kk z38 = x at hd HNO HYES HTS HDT
     generalize hq : enumOk mk x = q at hd
     have HQ := Aside0.mk hq; clear hq HDT
     go_wp2_with fail
     with_reducible refine (hd _ HBr.out).mono ?_
     rintro e w8 ⟨rfl, hb_⟩
     replace HK := Aside0.mk (below_step HK.out hb_)
     clear hb_ hd HBr B2x c2_0 c2_1
     cases q with
     | false =>
       have HCF := Aside0.mk (show C = (4, -1, (kk : Int)) by rw [HF.out, ← RE.out, HNO.out HQ.out]; rfl)
       go_wp2_with ((with_reducible refine gate_store (t := 29) (p := 4) rfl ?_); refine store_whole rfl rfl 29 _ _ rfl g4 _ 29 rfl (below_blk Q4.out HK.out) _ rfl rfl rfl (by simp [Value.oneCell']) ?_; intro wf hbf hgf; have HBF := Aside0.mk hbf; have HGF := Aside0.mk hgf; clear hbf hgf)
       refine bodyPost_ret (results_c1 rfl _ _ g4 29 _ (0, 0) _ rfl HBF.out HUF.out rfl rfl) rfl ?_
       exact ⟨by rw [HCF.out], (below_step HB.out HK.out).grown HGF.out (below_step HB.out HK.out).size (fun k hk => by cases hk; exact L4.out)⟩
     | true =>
       have HR2 := Aside0.mk ((HYES.out HQ.out).symm.trans RE.out)
       go_wp2_with fail
       go_roundg (es.length - (kk + 1))
       case measure => omega
       case rel => exact ⟨kk + 1, _, by omega, by omega, by go_num, HK, HTS, HR2⟩
   · have hltz : ¬ (kk : Int) < (es.length : Int) := by omega
     obtain rfl : kk = es.length := by omega
     have HRF := Aside0.mk (show R = (none, mk) by rw [← RE.out, List.drop_length]; rfl)
     have HF2 := Aside0.mk (show C = runNodes es ns mk ns 0 by rw [HF.out, HRF.out]; rfl)
     have HN0 := Aside0.mk (show runNodes es ns mk (ns.drop 0) 0 = C by rw [List.drop_zero, HF2.out])
     have HTK := Aside0.mk (tiedK_zero (ns := ns) TE.out)
     clear HF HRF RE TE HF2 hg hkk hltz hlt hen
     generalize mk = m1 at HN0 HTK
     go_wp2_with fail
     clear HBr B2x c2_0 c2_1
     go_loopg [7] ns.length (fun gg s_ wr => ∃ (kk : Nat) (mk : Mp), kk ≤ ns.length ∧ ns.length - kk ≤ gg ∧ s_ = .int .i64 kk ∧ Aside0 (Below w5.heap.size w5 wr) ∧ Aside0 (TiedK es ns kk mk) ∧ Aside0 (runNodes es ns mk (ns.drop kk) kk = C))
     case atStart => exact ⟨0, m1, Nat.zero_le _, by omega, rfl, HK, HTK, HN0⟩
     case round =>
       clear HK HTK HN0
       obtain ⟨kk, mk, hkk, hg, rfl, HK, TK, RN⟩ := hrel
       have hmx : ns.length ≤ 9223372036854775807 := (HN.out).2.1
       have HBr := Aside0.mk (below_step HB.out HK.out)
       have B2x := Aside0.mk (below_blk B2.out HK.out)
       have c2_0 := (blk_cell B2x.out 0).trans rfl
       have c2_1 := (blk_cell B2x.out 1).trans rfl
       by_cases hlt : kk < ns.length
       · have hltz : (kk : Int) < (ns.length : Int) := by omega
         have hd := fun (W : World) (hB : Below w.heap.size w W) => hnd2 W hB kk hlt mk TK.out
         have HRA := Aside0.mk (runNodes_at (es := es) (ns := ns) (m := mk) hlt)
         have HNT := Aside0.mk (fun h => node_tied hlt rfl TK.out h)
         generalize ns.getD kk z35 = y at hd HRA HNT
         generalize nodeR es ns mk y = NR at hd HRA HNT
         obtain ⟨a, b, m'⟩ := NR
         go_wp2_with fail
         with_reducible refine (hd _ HBr.out).mono ?_
         rintro e w8 ⟨rfl, hb_⟩
         replace HK := Aside0.mk (below_step HK.out hb_)
         clear hb_ hd HBr B2x c2_0 c2_1
         cases b with
         | true =>
           have HCF := Aside0.mk (show C = (4, (kk : Int), a) by rw [← RN.out, HRA.out]; rfl)
           clear HNT RN HRA
           simp only [nodeF, if_true]
           go_wp2_with (first | ((with_reducible refine gate_store (t := 29) (p := 8) rfl ?_); refine store_whole rfl rfl 29 _ _ rfl w8.heap.size _ 29 rfl (blk_new _ _) _ rfl rfl rfl (by simp [Value.oneCell']) ?_; intro w2 hb2 hg2; replace HK := Aside0.mk (below_as HK.out hg2); obtain ⟨g8, hq_⟩ : ∃ g_, g_ = w8.heap.size := ⟨_, rfl⟩; rw [← hq_] at hb2; rw [← hq_]; have B8 := Aside0.mk hb2; have c8_0 := (blk_cell hb2 0).trans rfl; have c8_1 := (blk_cell hb2 1).trans rfl; have c8_2 := (blk_cell hb2 2).trans rfl; clear hb2 hg2 hq_) | ((with_reducible refine gate_store (t := 29) (p := 4) rfl ?_); refine store_whole rfl rfl 29 _ _ rfl g4 _ 29 rfl (below_blk Q4.out HK.out) _ rfl rfl rfl (by simp [Value.oneCell']) ?_; intro wf hbf hgf; have HBF := Aside0.mk hbf; have HGF := Aside0.mk hgf; clear hbf hgf))
           refine bodyPost_ret (results_c1 rfl _ _ g4 29 _ (0, 0) _ rfl HBF.out HUF.out rfl rfl) rfl ?_
           exact ⟨by rw [HCF.out], (below_step HB.out HK.out).grown HGF.out (below_step HB.out HK.out).size (fun k hk => by cases hk; exact L4.out)⟩
         | false =>
           have HN2 := Aside0.mk (HNT.out rfl)
           have HR2 := Aside0.mk (show runNodes es ns (nodeM m' y kk) (ns.drop (kk + 1)) (kk + 1) = C by rw [← RN.out, HRA.out]; rfl)
           clear HNT RN HRA
           simp only [nodeF, Bool.false_eq_true, if_false]
           go_wp2_with ((with_reducible refine gate_store (t := 29) (p := 8) rfl ?_); refine store_whole rfl rfl 29 _ _ rfl w8.heap.size _ 29 rfl (blk_new _ _) _ rfl rfl rfl (by simp [Value.oneCell']) ?_; intro w2 hb2 hg2; replace HK := Aside0.mk (below_as HK.out hg2); obtain ⟨g8, hq_⟩ : ∃ g_, g_ = w8.heap.size := ⟨_, rfl⟩; rw [← hq_] at hb2; rw [← hq_]; have B8 := Aside0.mk hb2; have c8_0 := (blk_cell hb2 0).trans rfl; have c8_1 := (blk_cell hb2 1).trans rfl; have c8_2 := (blk_cell hb2 2).trans rfl; clear hb2 hg2 hq_)
           clear c8_0 c8_1 c8_2 B8
           go_roundg (ns.length - (kk + 1))
           case measure => omega
           case rel => exact ⟨kk + 1, _, by omega, by omega, by go_num, HK, HN2, HR2⟩
       · have hltz : ¬ (kk : Int) < (ns.length : Int) := by omega
         obtain rfl : kk = ns.length := by omega
         have HCF := Aside0.mk (show C = (0, 0, 0) by rw [← RN.out, List.drop_length]; rfl)
         go_wp2_with ((with_reducible refine gate_store (t := 29) (p := 4) rfl ?_); refine store_whole rfl rfl 29 _ _ rfl g4 _ 29 rfl (below_blk Q4.out HK.out) _ rfl rfl rfl (by simp [Value.oneCell']) ?_; intro wf hbf hgf; have HBF := Aside0.mk hbf; have HGF := Aside0.mk hgf; clear hbf hgf)
         refine bodyPost_ret (results_c1 rfl _ _ g4 29 _ (0, 0) _ rfl HBF.out HUF.out rfl rfl) rfl ?_
         exact ⟨by rw [HCF.out], (below_step HB.out HK.out).grown HGF.out (below_step HB.out HK.out).size (fun k hk => by cases hk; exact L4.out)⟩
end Go.Proofs.YtggfnbnochmkdaaGreat
