/- The reference: unlike lists, enums; what its printed functions answer. -/
import Derived.Test.YtggfnbnochmkdaaGreatZa
import Derived.Test.YtggfnbnochmkdaaGreatRa
namespace Go.Proofs.YtggfnbnochmkdaaGreat
open Go Go.RowKit Go.Lib Go.Proofs.YtggfnbnochmkdaaGreatW.PrintWords Go.Proofs.YtggfnbnochmkdaaGreat.PScope
set_option maxRecDepth 100000
set_option linter.unusedSimpArgs false
set_option linter.unusedVariables false
theorem zhas_calls (A : Option Addr) (c : Nat) (l : List ByteArray) (s : ByteArray) (w : World) (hC : Kd.string.C w A l.length l) (hc : l.length ≤ c) (hl : l.length < 9223372036854775807) :
   Calls Tryz.prog 39 #[.slice A l.length c, .string s] w fun e w' => e = .returned (.bool (inB l s)) ∧ Drawn0 w w' :=
 penduleref01_Has.calls (l.length + 1) A c l s (inB l s) w hC hc (has_eq l s hl _ (by omega))
theorem zhas_drew (A : Option Addr) (c : Nat) (l : List ByteArray) (s : ByteArray) (b : Bool) (w : World) (hC : Kd.string.C w A l.length l) (hc : l.length ≤ c) (hl : l.length < 9223372036854775807) (hb : inB l s = b) (m : Nat) :
   Calls Tryz.prog 39 #[.slice A l.length c, .string s] (w.drewN m) fun e w' => e = .returned (.bool b) ∧ ∃ k, w' = w.drewN k := by
 refine (zhas_calls A c l s (w.drewN m) (Kd.C_drewN hC m) hc hl).mono ?_
 rintro e w' ⟨rfl, ⟨k, rfl⟩⟩
 exact ⟨by rw [hb], m + k, by rw [World.drewN_drewN]⟩
theorem zhas_below (A : Option Addr) (c : Nat) (l : List ByteArray) (s : ByteArray) (w : World) (hC : Kd.string.C w A l.length l) (hc : l.length ≤ c) (hl : l.length < 9223372036854775807) :
   Calls Tryz.prog 39 #[.slice A l.length c, .string s] w fun e w' => e = .returned (.bool (inB l s)) ∧ Below w.heap.size w w' :=
 (zhas_calls A c l s w hC hc hl).mono (fun e w' ⟨h1, h2⟩ => ⟨h1, h2.below⟩)
theorem zcon_calls (es : List S38) (ns : List S35) (Ae An : Option Addr) (ce cn : Nat) (s : ByteArray) (w : World) (he : k38.C w Ae es.length es) (hce : es.length ≤ ce) (hn : k35.C w An ns.length ns) (hcn : ns.length ≤ cn) :
   Calls Tryz.prog 34 #[.agg #[.slice Ae es.length ce, .slice An ns.length cn], .string s] w fun e w' => e = .returned (.tuple #[.int .i64 (conR es s).1, .int .i64 (conR es s).2.1, .bool (conR es s).2.2]) ∧ Below w.heap.size w w' := by
 obtain ⟨k, hk⟩ := (zcon_f s es ns he.2.1 (cons_len he)).at_
 exact penduleref05_Con.calls k Ae ce es An cn ns s _ _ _ w he hce hn hcn hk
theorem znode_calls (es : List S38) (ns : List S35) (Ae An : Option Addr) (ce cn : Nat) (s : ByteArray) (w : World) (he : k38.C w Ae es.length es) (hce : es.length ≤ ce) (hn : k35.C w An ns.length ns) (hcn : ns.length ≤ cn) :
   Calls Tryz.prog 57 #[.agg #[.slice Ae es.length ce, .slice An ns.length cn], .string s] w fun e w' => e = .returned (.tuple #[.int .i64 (((findN s ns).getD 0 : Nat) : Int), .bool (findN s ns).isSome]) ∧ Below w.heap.size w w' := by
 obtain ⟨k, hk⟩ := (znode_f s es ns hn.2.1).at_
 exact penduleref05_Node.calls k Ae ce es An cn ns s _ _ w he hce hn hcn hk
theorem zall_calls (es : List S38) (ns : List S35) (Ae An : Option Addr) (ce cn : Nat) (l : List ByteArray) (A : Option Addr) (c : Nat) (w : World) (he : k38.C w Ae es.length es) (hce : es.length ≤ ce) (hn : k35.C w An ns.length ns) (hcn : ns.length ≤ cn) (hl : Kd.string.C w A l.length l) (hc : l.length ≤ c) :
   Calls Tryz.prog 82 #[.agg #[.slice Ae es.length ce, .slice An ns.length cn], .slice A l.length c] w fun e w' => e = .returned (.bool (wholeB es l)) ∧ Below w.heap.size w w' := by
 obtain ⟨k, hk⟩ := (zall_f l es ns hl.2.1 he.2.1).at_
 exact penduleref05_all.calls k Ae ce es An cn ns A c l _ w he hce hn hcn hl hc hk
theorem zstates_calls (es : List S38) (ns : List S35) (Ae An : Option Addr) (ce cn : Nat) (a b : Nat) (ha : a < ns.length) (hil : ∀ n, n ∈ ns → n.f4.length ≤ 9223372036854775807 ∧ ∀ x, x ∈ n.f4 → x.f1.length ≤ 9223372036854775807) (hb : (statesL ns a b).length ≤ 8796093022207) (w : World) (he : k38.C w Ae es.length es) (hce : es.length ≤ ce) (hn : k35.C w An ns.length ns) (hcn : ns.length ≤ cn) :
   Calls Tryz.prog 81 #[.agg #[.slice Ae es.length ce, .slice An ns.length cn], .int .i64 (a : Int), .int .i64 (b : Int)] w (StrsPost (statesL ns a b) w) := by
 obtain ⟨k, hk⟩ := (zstates_f es ns a b ha hn.2.1 hil hb).at_
 refine (penduleref05_States.calls k Ae ce es An cn ns (a : Int) (b : Int) _ w he hce hn hcn hk).mono ?_
 rintro e w' ⟨v, rfl, hR, hB⟩
 obtain ⟨A, c, rfl, hc, hC⟩ := Kd.R_reads hR
 exact ⟨A, c, rfl, hc, hC, hB⟩
theorem C_take' {α : Type} {d : Kd α} {w : World} {A : Option Addr} {xs : List α} (h : d.C w A xs.length xs) (k : Nat) : d.C w A (xs.take k).length (xs.take k) := by
 refine ⟨rfl, Nat.le_trans (by rw [List.length_take]; omega) h.2.1, fun hn => ?_⟩
 have hl : (xs.take k).length ≤ xs.length := by rw [List.length_take]; omega
 obtain ⟨ad, e, hh⟩ := h.2.2 (by omega)
 refine ⟨ad, e, fun j q hj => hh j q ?_⟩
 rw [List.getElem?_take] at hj
 split at hj
 · exact hj
 · cases hj
theorem unlike_step (l : List ByteArray) (k : Nat) (h : k < l.length) (hu : unlikeB (l.take k) = true) : unlikeB (l.take (k + 1)) = !inB (l.take k) (l.getD k (⟨#[]⟩ : ByteArray)) := by
 have htk : l.take (k + 1) = l.take k ++ [l.getD k (⟨#[]⟩ : ByteArray)] := by rw [List.take_add_one, List.getD_eq_getElem?_getD, List.getElem?_eq_getElem h]; rfl
 rw [htk, unlikeB_snoc, hu]; rfl
theorem zupto_step {α : Type} {P : α → Bool} {l : List α} {z y : α} {k : Nat} (h : ∀ j, j < k → P (l.getD j z) = true) (e : l.getD k z = y) (hy : P y = true) : ∀ j, j < k + 1 → P (l.getD j z) = true := by
 intro j hj
 by_cases hjk : j = k
 · subst hjk; rw [e]; exact hy
 · exact h j (by omega)
set_option maxHeartbeats 4000000 in
theorem zunlike_calls (A : Option Addr) (c : Nat) (l : List ByteArray) (w : World) (hC : Kd.string.C w A l.length l) (hc : l.length ≤ c) (hl : l.length < 9223372036854775807) :
   Calls Tryz.prog 35 #[.slice A l.length c] w fun e w' => e = .returned (.bool (unlikeB l)) ∧ Below w.heap.size w w' := by
 have HC := Aside0.mk hC; have HL := Aside0.mk hl; have HCC := Aside0.mk hc; have HB := Aside0.mk (Below.refl w.heap.size w)
 clear hC hc hl
 have HU := Aside0.mk (show unlikeB (l.take 0) = true by simp [unlikeB])
 go_enter Tryz.func35, Tryz.ntmps35
 go_wp2_with fail
 go_loopg [3] l.length (fun gg s_ wr => ∃ (kka : Nat), kka ≤ l.length ∧ l.length - kka ≤ gg ∧ s_ = .int .i64 kka ∧ Aside0 (Below w.heap.size w wr) ∧ Aside0 (unlikeB (l.take kka) = true))
 case atStart => exact ⟨0, Nat.zero_le _, by omega, rfl, HB, HU⟩
 case round =>
   clear HB HU
   obtain ⟨kka, hkka, hgkka, rfl, HB, HU⟩ := hrel
   have hmxa : l.length ≤ 9223372036854775807 := (HC.out).2.1
   by_cases hlta : kka < l.length
   · have hltza : (kka : Int) < (l.length : Int) := by omega
     have hsn := unlike_step l kka hlta HU.out
     have hkc : (kka : Int) ≤ (c : Int) := by have := HCC.out; omega
     have hkl : (kka : Int) ≤ (l.length : Int) := by omega
     have hcl := HCC.out
     obtain ⟨sad, scs, rfl, _, sK, scc⟩ := Kd.C_get HC.out (⟨#[]⟩ : ByteArray) (kka : Int) (by omega) (by omega)
     obtain rfl := sK
     have sx0 := (HB.out.cell (World.block_lt_of_cell? w _ (scc 0 _ rfl))).trans (scc 0 _ rfl)
     simp only [show Kd.string.sz = 1 from rfl, Nat.mul_one, Nat.add_zero, Int.toNat_natCast] at sx0
     clear scc
     try simp only [Int.toNat_natCast] at sx0
     generalize Ys0 : l.getD kka (⟨#[]⟩ : ByteArray) = s at hsn sx0
     have Ys := Aside0.mk Ys0; clear Ys0
     have HSN := Aside0.mk hsn; clear hsn
     generalize hb0 : inB (l.take kka) s = b at HSN
     have hh := zhas_drew _ c (l.take kka) s b wr (C_take' (Kd.C_below HC.out HB.out) kka) (by rw [List.length_take]; omega) (by have := HL.out; rw [List.length_take]; omega) hb0
     rw [show (l.take kka).length = kka by rw [List.length_take]; omega] at hh
     clear hb0 hcl
     go_wp2_with fail
     go_quiet ((go_at_call 39; exact hh _))
     have HB_ := Aside0.mk (pw_below_drewN HB.out nq); clear HB
     generalize wr.drewN nq = w6 at HB_ ⊢
     have HB := HB_; clear HB_
     clear hh sx0
     cases b with
     | true =>
       go_wp2_with fail
       go_ret
       exact ⟨by rw [unlikeB_take HSN.out]; rfl, HB.out⟩
     | false =>
       go_wp2_with fail
       go_roundg (l.length - (kka + 1))
       case measure => omega
       case rel => exact ⟨kka + 1, by omega, by omega, by go_num, HB, ⟨HSN.out⟩⟩
   · have hltza : ¬ (kka : Int) < (l.length : Int) := by omega
     obtain rfl : kka = l.length := by omega
     have hu := HU.out
     rw [List.take_length] at hu
     have HU2 := Aside0.mk hu; clear hu HU
     go_wp2_with fail
     go_ret
     exact ⟨by rw [HU2.out]; rfl, HB.out⟩
theorem enum_no1 {es : List S38} {n : Nat} {t u : S38} {k : Nat} (hk : k < n) (hl : k < es.length) (e : es.getD k z38 = u) (h : u.f0 = t.f0) : (es.take n).any (fun u => decide (u.f0 = t.f0)) = true := by
 rw [List.any_eq_true]
 refine ⟨u, ?_, by rw [h]; simp⟩
 rw [List.mem_iff_getElem?]
 refine ⟨k, ?_⟩
 rw [List.getElem?_take, if_pos hk, List.getElem?_eq_getElem hl, ← e, List.getD_eq_getElem?_getD, List.getElem?_eq_getElem hl]; rfl
theorem enum_yes1 {es : List S38} {n : Nat} {t : S38} (h : ∀ j, j < n → (es.getD j z38).f0 ≠ t.f0) : (es.take n).any (fun u => decide (u.f0 = t.f0)) = false := by
 rw [List.any_eq_false]
 intro u hu
 obtain ⟨k, hk⟩ := List.mem_iff_getElem?.1 hu
 rw [List.getElem?_take] at hk
 split at hk
 · rename_i hkn
   have := h k hkn
   rw [List.getD_eq_getElem?_getD, hk] at this
   simpa using this
 · cases hk
set_option maxHeartbeats 8000000 in
theorem zenum_calls (es : List S38) (ns : List S35) (Ae An : Option Addr) (ce cn : Nat) (n : Nat) (w : World) (he : k38.C w Ae es.length es) (hce : es.length ≤ ce) (hn : n < es.length) (hcl : ∀ t, t ∈ es → t.f1.length ≤ 1048576) :
   Calls Tryz.prog 16 #[.agg #[.slice Ae es.length ce, .slice An ns.length cn], .int .i64 (n : Int)] w fun e w' => e = .returned (.bool (zenumB es n (es.getD n z38))) ∧ Below w.heap.size w w' := by
 have HE := Aside0.mk he; have HCE := Aside0.mk hce; have HB := Aside0.mk (Below.refl w.heap.size w)
 have HT1 := Aside0.mk (hcl (es.getD n z38) (by rw [List.getD_eq_getElem?_getD, List.getElem?_eq_getElem hn]; exact List.getElem_mem hn))
 have HF := Aside0.mk (show zenumB es n (es.getD n z38) = (!(es.take n).any (fun u => decide (u.f0 = (es.getD n z38).f0)) && ((es.getD n z38).f1.all (fun c => !(conR (es.take n) c).2.2) && unlikeB (es.getD n z38).f1)) from rfl)
 have hnz : (n : Int) < (es.length : Int) := by omega
 have hnc : (n : Int) ≤ (ce : Int) := by omega
 have hnl : (n : Int) ≤ (es.length : Int) := by omega
 clear he hce hcl
 have hu1 := Tryz.underlying25
 have hu2 := Tryz.underlying38
 obtain ⟨tad, tcs, rfl, _, tK, tcc⟩ := Kd.C_get HE.out z38 (n : Int) (by omega) (by omega)
 have tK' := tK
 obtain ⟨tA1, tc1, rfl, tl1, tg1⟩ := k38_open tK'
 have tx0 := (HB.out.cell (World.block_lt_of_cell? w _ (tcc 0 _ rfl))).trans (tcc 0 _ rfl)
 have tx1 := (HB.out.cell (World.block_lt_of_cell? w _ (tcc 1 _ rfl))).trans (tcc 1 _ rfl)
 rw [show (k38).sz = 2 from rfl, Nat.add_zero, Int.toNat_natCast] at tx0
 rw [show (k38).sz = 2 from rfl, Int.toNat_natCast, add_field _ _ 1 (by omega)] at tx1
 clear tcc
 try simp only [Int.toNat_natCast] at tx0 tx1 tK tl1 tg1
 generalize Yt0 : es.getD n z38 = t at HT1 HF tx0 tx1 tK tl1 tg1
 have Yt := Aside0.mk Yt0; clear Yt0
 have tL1 := Aside0.mk tl1; have tG1 := Aside0.mk tg1; clear tl1 tg1
 go_enter Tryz.func16, Tryz.ntmps16
 go_upto_region 2 with (first | ((with_reducible refine gate_dst (N := 2) rfl ?_); refine box_event ?hg (N := 2) ?hd (cs := #[.slice (some tad) es.length ce, .slice An ns.length cn]) (t := 25) ?hr ?_; (case hd => rfl); (case hg => rfl); (case hr => first | (go_simp; done) | (go_simp; rfl)); intro g2 hg_ w_ hbox hb; have B2 := Aside0.mk hbox; have LB2 := Aside0.mk ((by rw [hg_]; exact below_size HB.out) : w.heap.size ≤ g2); replace HB := Aside0.mk (below_step HB.out hb); clear hb hbox hg_; have c2_0 := (blk_cell B2.out 0).trans rfl; have c2_1 := (blk_cell B2.out 1).trans rfl; have hx0 := (HB.out.cell (World.block_lt_of_cell? w _ tx0)).trans tx0; have hx1 := (HB.out.cell (World.block_lt_of_cell? w _ tx1)).trans tx1) | ((with_reducible refine gate_store (t := 38) (p := 5) rfl ?_); refine store_whole rfl rfl 38 _ _ rfl w_.heap.size _ 38 rfl (blk_new _ _) _ rfl rfl rfl (by simp [Value.oneCell']) ?_; intro w2 hb2 hg2; clear c2_0 c2_1 hx0 hx1; replace B2 := Aside0.mk (blk_as B2.out hg2); replace HB := Aside0.mk (below_as HB.out hg2); obtain ⟨g5, hq_⟩ : ∃ g_, g_ = w_.heap.size := ⟨_, rfl⟩; rw [← hq_] at hb2; rw [← hq_]; have B5 := Aside0.mk hb2; clear hb2 hg2 hq_; have c2_0 := (blk_cell B2.out 0).trans rfl; have c2_1 := (blk_cell B2.out 1).trans rfl))
 generalize w2 = w7 at B2 B5 HB c2_0 c2_1 ⊢
 go_wp2_with ((with_reducible refine gate_store (t := 25) (p := 6) rfl ?_); refine store_whole rfl rfl 25 _ _ rfl w7.heap.size _ 25 rfl (blk_new _ _) _ rfl rfl rfl (by simp [Value.oneCell']) ?_; intro w2 hb2 hg2; clear c2_0 c2_1; replace B2 := Aside0.mk (blk_as B2.out hg2); replace B5 := Aside0.mk (blk_as B5.out hg2); replace HB := Aside0.mk (below_as HB.out hg2); obtain ⟨g6, hq_⟩ : ∃ g_, g_ = w7.heap.size := ⟨_, rfl⟩; rw [← hq_] at hb2; rw [← hq_]; have B6 := Aside0.mk hb2; clear hb2 hg2 hq_)
 clear tx0 tx1 hnz hnc hnl
 generalize w2 = w8 at B2 B5 B6 HB ⊢
 have HNH := Aside0.mk hn
 go_loopg [7] n (fun gg s_ wr => ∃ kk : Nat, kk ≤ n ∧ n - kk ≤ gg ∧ s_ = .int .i64 kk ∧ Aside0 (Below w.heap.size w wr) ∧ Aside0 (wr.heap[g2]? = some (.cells #[.slice (some tad) es.length ce, .slice An ns.length cn] 25 (0, 0))) ∧ Aside0 (wr.heap[g5]? = some (.cells #[.string t.f0, .slice tA1 (t.f1).length tc1] 38 (0, 0))) ∧ Aside0 (wr.heap[g6]? = some (.cells #[.slice (some tad) n ce, .slice none 0 0] 25 (0, 0))) ∧ Aside0 (∀ j, j < kk → (es.getD j z38).f0 ≠ t.f0))
 case atStart => exact ⟨0, Nat.zero_le _, by omega, rfl, HB, B2, B5, B6, ⟨fun j hj => absurd hj (Nat.not_lt_zero _)⟩⟩
 case round =>
   clear HB B2 B5 B6
   obtain ⟨kk, hkk, hg, rfl, HB, B2, B5, B6, NE⟩ := hrel
   by_cases hlt : kk < n
   · have hltz : (kk : Int) < (n : Int) := by omega
     have hlt2 : kk < es.length := by omega
     have hltz2 : (kk : Int) < (es.length : Int) := by omega
     have hmx : es.length ≤ 9223372036854775807 := HE.out.2.1
     obtain ⟨uad, ucs, hu_, _, uK, ucc⟩ := Kd.C_get HE.out z38 (kk : Int) (by omega) (by omega)
     obtain rfl := (Option.some.inj hu_).symm; clear hu_; have uK' := uK
     obtain ⟨uA1, uc1, rfl, ul1, ug1⟩ := k38_open uK'
     have ux0 := (HB.out.cell (World.block_lt_of_cell? w _ (ucc 0 _ rfl))).trans (ucc 0 _ rfl)
     have ux1 := (HB.out.cell (World.block_lt_of_cell? w _ (ucc 1 _ rfl))).trans (ucc 1 _ rfl)
     rw [show (k38).sz = 2 from rfl, Nat.add_zero, Int.toNat_natCast] at ux0
     rw [show (k38).sz = 2 from rfl, Int.toNat_natCast, add_field _ _ 1 (by omega)] at ux1
     clear ucc
     try simp only [Int.toNat_natCast] at ux0 ux1 uK ul1 ug1
     generalize Yu0 : es.getD kk z38 = u at ux0 ux1 uK ul1 ug1
     have Yu := Aside0.mk Yu0; clear Yu0
     have uL1 := Aside0.mk ul1; have uG1 := Aside0.mk ug1; clear ul1 ug1
     have c2_0 := (blk_cell B2.out 0).trans rfl
     have c2_1 := (blk_cell B2.out 1).trans rfl
     have c5_0 := (blk_cell B5.out 0).trans rfl
     have c5_1 := (blk_cell B5.out 1).trans rfl
     have HQ := Aside0.mk (sameS_eq u.f0 t.f0)
     generalize hq0 : sameS u.f0 t.f0 = q at HQ
     have HQ0 := Aside0.mk hq0; clear hq0
     have hqq := HQ.out
     go_wp2_with fail
     go_quiet (fail)
     have HB_ := Aside0.mk (pw_below_drewN HB.out nq); clear HB
     have B2_ := Aside0.mk (blk_drewN B2.out nq); clear B2
     have B5_ := Aside0.mk (blk_drewN B5.out nq); clear B5
     have B6_ := Aside0.mk (blk_drewN B6.out nq); clear B6
     generalize wr.drewN nq = w6 at HB_ B2_ B5_ B6_ ⊢
     have HB := HB_; clear HB_
     have B2 := B2_; clear B2_
     have B5 := B5_; clear B5_
     have B6 := B6_; clear B6_
     clear c2_0 c2_1
     clear c5_0 c5_1
     clear ux0 ux1
     try rw [HQ.out]
     cases q with
     | true =>
       have HR := Aside0.mk (enum_no1 (es := es) (n := n) (t := t) hlt (by omega) Yu.out ((zsameS_iff _ _).1 HQ0.out))
       go_wp2_with fail
       go_ret
       exact ⟨by rw [HF.out, HR.out]; rfl, HB.out⟩
     | false =>
       go_wp2_with fail
       go_roundg (n - (kk + 1))
       case measure => omega
       case rel =>
         refine ⟨kk + 1, by omega, by omega, by go_num, HB, B2, B5, B6, ⟨fun j hj => ?_⟩⟩
         by_cases e : j = kk
         · subst e; rw [Yu.out]; exact fun h => by have h2 := (zsameS_iff _ _).2 h; rw [HQ0.out] at h2; cases h2
         · exact NE.out j (by omega)
   · have hltz : ¬ (kk : Int) < (n : Int) := by omega
     obtain rfl : n = kk := by omega
     have HA := Aside0.mk (enum_yes1 (es := es) (n := n) (t := t) NE.out)
     clear NE hg hkk hltz hlt hn
     have HF2 := Aside0.mk (show zenumB es n t = (t.f1.all (fun c => !(conR (es.take n) c).2.2) && unlikeB t.f1) by rw [HF.out, HA.out]; rfl)
     clear HF HA
     have hcn := fun (W : World) (hB : Below w.heap.size w W) (s : ByteArray) => zcon_calls (es.take n) [] (some tad) none ce 0 s W (C_take' (Kd.C_below HE.out hB) n) (by have := HCE.out; rw [List.length_take]; omega) (Kd.C_nil _ _) (Nat.le_refl 0)
     rw [show (es.take n).length = n by have := HNH.out; rw [List.length_take]; omega] at hcn
     simp only [List.length_nil] at hcn
     have c5_0 := (blk_cell B5.out 0).trans rfl
     have c5_1 := (blk_cell B5.out 1).trans rfl
     go_wp2_with fail
     clear c5_0 c5_1
     go_loopg [8] t.f1.length (fun gg s_ wr => ∃ (kkb : Nat), kkb ≤ t.f1.length ∧ t.f1.length - kkb ≤ gg ∧ s_ = .int .i64 kkb ∧ Aside0 (Below w.heap.size w wr) ∧ Aside0 (wr.heap[g2]? = some (.cells #[.slice (some tad) es.length ce, .slice An ns.length cn] 25 (0, 0))) ∧ Aside0 (wr.heap[g5]? = some (.cells #[.string t.f0, .slice tA1 (t.f1).length tc1] 38 (0, 0))) ∧ Aside0 (wr.heap[g6]? = some (.cells #[.slice (some tad) n ce, .slice none 0 0] 25 (0, 0))) ∧ Aside0 (∀ j, j < kkb → (fun c => !(conR (es.take n) c).2.2) (t.f1.getD j (⟨#[]⟩ : ByteArray)) = true))
     case atStart => exact ⟨0, Nat.zero_le _, by omega, rfl, HB, B2, B5, B6, ⟨fun j hj => absurd hj (Nat.not_lt_zero _)⟩⟩
     case round =>
       clear HB B2 B5 B6
       obtain ⟨kkb, hkkb, hgkkb, rfl, HB, B2, B5, B6, Nb⟩ := hrel
       have hmxb : t.f1.length ≤ 9223372036854775807 := (tG1.out).2.1
       by_cases hltb : kkb < t.f1.length
       · have hltzb : (kkb : Int) < (t.f1.length : Int) := by omega
         obtain ⟨sad, scs, hs_, _, sK, scc⟩ := Kd.C_get tG1.out (⟨#[]⟩ : ByteArray) (kkb : Int) (by omega) (by omega)
         obtain rfl := sK
         subst hs_
         have sx0 := (HB.out.cell (World.block_lt_of_cell? w _ (scc 0 _ rfl))).trans (scc 0 _ rfl)
         simp only [show Kd.string.sz = 1 from rfl, Nat.mul_one, Nat.add_zero, Int.toNat_natCast] at sx0
         clear scc
         try simp only [Int.toNat_natCast] at sx0
         generalize Ys0 : t.f1.getD kkb (⟨#[]⟩ : ByteArray) = s at sx0
         have Ys := Aside0.mk Ys0; clear Ys0
         have c5_0 := (blk_cell B5.out 0).trans rfl
         have c5_1 := (blk_cell B5.out 1).trans rfl
         have c6_0 := (blk_cell B6.out 0).trans rfl
         have c6_1 := (blk_cell B6.out 1).trans rfl
         have hlnat := hltb
         go_wp2_with fail
         go_cut [11] from 44 to 53 (fun s_ wx => s_ = .bool (conR (es.take n) s).2.2 ∧ Aside0 (Below w.heap.size w wx) ∧ Aside0 (wx.heap[g2]? = some (.cells #[.slice (some tad) es.length ce, .slice An ns.length cn] 25 (0, 0))) ∧ Aside0 (wx.heap[g5]? = some (.cells #[.string t.f0, .slice (some sad) (t.f1).length tc1] 38 (0, 0))) ∧ Aside0 (wx.heap[g6]? = some (.cells #[.slice (some tad) n ce, .slice none 0 0] 25 (0, 0))))
         case first =>
           go_region_with (with_reducible refine (hcn _ (below_drew1 HB.out) s).mono ?_; rintro e w10 ⟨rfl, hb⟩; have B2_ := Aside0.mk (below_blk (blk_drew B2.out) hb); have B5_ := Aside0.mk (below_blk (blk_drew B5.out) hb); have B6_ := Aside0.mk (below_blk (blk_drew B6.out) hb); have HB_ := Aside0.mk (below_step (below_drew1 HB.out) hb); clear hb)
           all_goals
             go_wp2_with fail
             go_meet
             case rel => exact ⟨rfl, HB_, B2_, B5_, B6_⟩
         case rest =>
           clear HB B2 B5 B6
           obtain ⟨rfl, HB, B2, B5, B6⟩ := hcut
           clear c5_0 c5_1
           clear c6_0 c6_1
           clear sx0
           cases hq : (conR (es.take n) s).2.2 with
           | true =>
             have HQ := Aside0.mk hq; clear hq
             go_wp2_with fail
             go_ret
             exact ⟨by rw [HF2.out, all_getD_no t.f1 (fun c => !(conR (es.take n) c).2.2) (⟨#[]⟩ : ByteArray) kkb hltb (by rw [Ys.out, HQ.out]; rfl)]; rfl, HB.out⟩
           | false =>
             have HQ := Aside0.mk hq; clear hq
             go_wp2_with fail
             go_roundg (t.f1.length - (kkb + 1))
             case measure => omega
             case rel => exact ⟨kkb + 1, by omega, by omega, by go_num, HB, B2, B5, B6, ⟨zupto_step (P := fun c => !(conR (es.take n) c).2.2) Nb.out Ys.out (by rw [HQ.out]; rfl)⟩⟩
       · have hltzb : ¬ (kkb : Int) < (t.f1.length : Int) := by omega
         obtain rfl : kkb = t.f1.length := by omega
         have HALL := Aside0.mk (all_getD t.f1 (fun c => !(conR (es.take n) c).2.2) (⟨#[]⟩ : ByteArray) Nb.out)
         have hun := fun (W : World) (hB : Below w.heap.size w W) => zunlike_calls tA1 tc1 t.f1 W (Kd.C_below tG1.out hB) tL1.out (by have := HT1.out; omega)
         have c5_0 := (blk_cell B5.out 0).trans rfl
         have c5_1 := (blk_cell B5.out 1).trans rfl
         go_wp2_with fail
         refine (hun _ HB.out).mono ?_
         rintro e w11 ⟨rfl, hb⟩
         replace HB := Aside0.mk (below_step HB.out hb)
         clear hb hun
         go_wp2_with fail
         go_ret
         exact ⟨by rw [HF2.out, HALL.out]; rfl, HB.out⟩
end Go.Proofs.YtggfnbnochmkdaaGreat
