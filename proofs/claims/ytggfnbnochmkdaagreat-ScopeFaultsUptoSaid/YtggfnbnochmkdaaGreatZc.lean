/- The reference: a node's names. -/
import Derived.Deep.RegionLaw
import Derived.Test.YtggfnbnochmkdaaGreatZb
namespace Go.Proofs.YtggfnbnochmkdaaGreat
open Go Go.RowKit Go.Lib Go.Proofs.YtggfnbnochmkdaaGreatW.PrintWords Go.Proofs.YtggfnbnochmkdaaGreat.PScope
set_option maxRecDepth 100000
set_option linter.unusedSimpArgs false
set_option linter.unusedVariables false
def TiedN (ns : List S35) (k : Nat) (m : Mp) : Prop := ∀ s, m.nodes s = Option.map (fun i : Nat => (i : Int)) (findN s (ns.take k))
theorem TiedN.some {ns : List S35} {k : Nat} {m : Mp} (h : TiedN ns k m) (s : ByteArray) : (m.nodes s).isSome = (findN s (ns.take k)).isSome := by rw [h s]; cases findN s (ns.take k) <;> rfl
theorem all_and {α : Type} (p q : α → Bool) (l : List α) : l.all (fun x => p x && q x) = (l.all p && l.all q) := by
 induction l with
 | nil => rfl
 | cons a r ih => rw [List.all_cons, List.all_cons, List.all_cons, ih]; cases p a <;> cases q a <;> cases r.all p <;> rfl
theorem head_eq {ns : List S35} {k : Nat} {m : Mp} {n : S35} (h : TiedN ns k m) : headB m n = (!(findN n.f0 (ns.take k)).isSome && (unlikeB (n.f1 ++ n.f2) && (unlikeB n.f3 && (!inB n.f1 n.f0 && n.f1.all (fun f => !(findN f (ns.take k)).isSome))))) := by
 unfold headB head0
 have h1 : n.f1.all (funOk m n) = (n.f1.all (fun f => !(findN f (ns.take k)).isSome) && !inB n.f1 n.f0) := by
   have : funOk m n = fun f => !(findN f (ns.take k)).isSome && !sameS f n.f0 := by funext f; unfold funOk; rw [h.some f]
   rw [this, all_and]
   congr 1
   unfold inB sameS
   induction n.f1 with
   | nil => rfl
   | cons a r ih => rw [List.all_cons, List.any_cons, ih, Bool.not_or]
 rw [h1, h.some]
 cases (findN n.f0 (ns.take k)).isSome <;> cases unlikeB (n.f1 ++ n.f2) <;> cases unlikeB n.f3 <;> cases inB n.f1 n.f0 <;> cases n.f1.all (fun f => !(findN f (ns.take k)).isSome) <;> rfl
set_option maxHeartbeats 8000000 in
theorem zhead_calls (es : List S38) (ns : List S35) (Ae An : Option Addr) (ce cn : Nat) (k : Nat) (w : World) (hn : k35.C w An ns.length ns) (hcn : ns.length ≤ cn) (hk : k < ns.length) (m : Mp) (hm : TiedN ns k m) (hsz : (ns.getD k z35).f1.length ≤ 100 ∧ (ns.getD k z35).f2.length ≤ 100 ∧ (ns.getD k z35).f3.length ≤ 100) :
   Calls Tryz.prog 36 #[.agg #[.slice Ae es.length ce, .slice An ns.length cn], .int .i64 (k : Int)] w fun e w' => e = .returned (.bool (headB m (ns.getD k z35))) ∧ Below w.heap.size w w' := by
 have HN := Aside0.mk hn; have HCN := Aside0.mk hcn; have HB := Aside0.mk (Below.refl w.heap.size w)
 have HF := Aside0.mk (head_eq (n := ns.getD k z35) hm)
 have HSZ := Aside0.mk hsz
 have hnz : (k : Int) < (ns.length : Int) := by omega
 have hnc : (k : Int) ≤ (cn : Int) := by omega
 have hnl : (k : Int) ≤ (ns.length : Int) := by omega
 have HKL := Aside0.mk hk
 clear hn hcn hsz hm
 have hu1 := Tryz.underlying25
 have hu2 := Tryz.underlying35
 have HU := Aside0.mk Tryz.underlying32
 obtain ⟨nad, ncs, rfl, _, nK, ncc⟩ := Kd.C_get HN.out z35 (k : Int) (by omega) (by omega)
 have nK' := nK
 obtain ⟨nA1, nc1, nA2, nc2, nA3, nc3, nA4, nc4, rfl, nl1, ng1, nl2, ng2, nl3, ng3, nl4, ng4⟩ := k35_open nK'
 have nx0 := (HB.out.cell (World.block_lt_of_cell? w _ (ncc 0 _ rfl))).trans (ncc 0 _ rfl)
 have nx1 := (HB.out.cell (World.block_lt_of_cell? w _ (ncc 1 _ rfl))).trans (ncc 1 _ rfl)
 have nx2 := (HB.out.cell (World.block_lt_of_cell? w _ (ncc 2 _ rfl))).trans (ncc 2 _ rfl)
 have nx3 := (HB.out.cell (World.block_lt_of_cell? w _ (ncc 3 _ rfl))).trans (ncc 3 _ rfl)
 have nx4 := (HB.out.cell (World.block_lt_of_cell? w _ (ncc 4 _ rfl))).trans (ncc 4 _ rfl)
 rw [show (k35).sz = 5 from rfl, Nat.add_zero, Int.toNat_natCast] at nx0
 rw [show (k35).sz = 5 from rfl, Int.toNat_natCast, add_field _ _ 1 (by omega)] at nx1
 rw [show (k35).sz = 5 from rfl, Int.toNat_natCast, add_field _ _ 2 (by omega)] at nx2
 rw [show (k35).sz = 5 from rfl, Int.toNat_natCast, add_field _ _ 3 (by omega)] at nx3
 rw [show (k35).sz = 5 from rfl, Int.toNat_natCast, add_field _ _ 4 (by omega)] at nx4
 clear ncc
 try simp only [Int.toNat_natCast] at nx0 nx1 nx2 nx3 nx4 nK nl1 ng1 nl2 ng2 nl3 ng3 nl4 ng4
 generalize Yn0 : ns.getD k z35 = n at HF HSZ nx0 nx1 nx2 nx3 nx4 nK nl1 ng1 nl2 ng2 nl3 ng3 nl4 ng4
 have Yn := Aside0.mk Yn0; clear Yn0
 have nL1 := Aside0.mk nl1; have nG1 := Aside0.mk ng1; clear nl1 ng1
 have nL2 := Aside0.mk nl2; have nG2 := Aside0.mk ng2; clear nl2 ng2
 have nL3 := Aside0.mk nl3; have nG3 := Aside0.mk ng3; clear nl3 ng3
 have nL4 := Aside0.mk nl4; have nG4 := Aside0.mk ng4; clear nl4 ng4
 try rw [Yn.out]
 go_enter Tryz.func36, Tryz.ntmps36
 go_upto_region 2 with (first | ((with_reducible refine gate_dst (N := 2) rfl ?_); refine box_event ?hg (N := 2) ?hd (cs := #[.slice Ae es.length ce, .slice (some nad) ns.length cn]) (t := 25) ?hr ?_; (case hd => rfl); (case hg => rfl); (case hr => first | (go_simp; done) | (go_simp; rfl)); intro g2 hg_ w_ hbox hb; have B2 := Aside0.mk hbox; have LB2 := Aside0.mk ((by rw [hg_]; exact below_size HB.out) : w.heap.size ≤ g2); replace HB := Aside0.mk (below_step HB.out hb); clear hb hbox hg_; have c2_0 := (blk_cell B2.out 0).trans rfl; have c2_1 := (blk_cell B2.out 1).trans rfl; have hx0 := (HB.out.cell (World.block_lt_of_cell? w _ nx0)).trans nx0; have hx1 := (HB.out.cell (World.block_lt_of_cell? w _ nx1)).trans nx1; have hx2 := (HB.out.cell (World.block_lt_of_cell? w _ nx2)).trans nx2; have hx3 := (HB.out.cell (World.block_lt_of_cell? w _ nx3)).trans nx3; have hx4 := (HB.out.cell (World.block_lt_of_cell? w _ nx4)).trans nx4) | ((with_reducible refine gate_store (t := 35) (p := 5) rfl ?_); refine store_whole rfl rfl 35 _ _ rfl w_.heap.size _ 35 rfl (blk_new _ _) _ rfl rfl rfl (by simp [Value.oneCell']) ?_; intro w2 hb2 hg2; clear c2_0 c2_1 hx0 hx1 hx2 hx3 hx4; replace B2 := Aside0.mk (blk_as B2.out hg2); replace HB := Aside0.mk (below_as HB.out hg2); obtain ⟨g5, hq_⟩ : ∃ g_, g_ = w_.heap.size := ⟨_, rfl⟩; rw [← hq_] at hb2; rw [← hq_]; have B5 := Aside0.mk hb2; clear hb2 hg2 hq_; have c2_0 := (blk_cell B2.out 0).trans rfl; have c2_1 := (blk_cell B2.out 1).trans rfl))
 generalize w2 = w7 at B2 B5 HB c2_0 c2_1 ⊢
 go_upto_region 3 with ((with_reducible refine gate_store (t := 25) (p := 6) rfl ?_); refine store_whole rfl rfl 25 _ _ rfl w7.heap.size _ 25 rfl (blk_new _ _) _ rfl rfl rfl (by simp [Value.oneCell']) ?_; intro w2 hb2 hg2; clear c2_0 c2_1; replace B2 := Aside0.mk (blk_as B2.out hg2); replace B5 := Aside0.mk (blk_as B5.out hg2); replace HB := Aside0.mk (below_as HB.out hg2); obtain ⟨g6, hq_⟩ : ∃ g_, g_ = w7.heap.size := ⟨_, rfl⟩; rw [← hq_] at hb2; rw [← hq_]; have B6 := Aside0.mk hb2; clear hb2 hg2 hq_)
 clear nx0 nx1 nx2 nx3 nx4 hnz hnc hnl nK
 generalize w2 = w8 at B2 B5 B6 HB ⊢
 have hnd := fun (W : World) (hB : Below w.heap.size w W) (s : ByteArray) => znode_calls [] (ns.take k) none (some nad) 0 cn s W (Kd.C_nil _ _) (Nat.le_refl 0) (C_take' (Kd.C_below HN.out hB) k) (by have := HCN.out; rw [List.length_take]; omega)
 rw [show (ns.take k).length = k by have := HKL.out; rw [List.length_take]; omega] at hnd
 simp only [List.length_nil] at hnd
 have c5_0 := (blk_cell B5.out 0).trans rfl
 have c5_1 := (blk_cell B5.out 1).trans rfl
 have c5_2 := (blk_cell B5.out 2).trans rfl
 have c5_3 := (blk_cell B5.out 3).trans rfl
 have c5_4 := (blk_cell B5.out 4).trans rfl
 have c6_0 := (blk_cell B6.out 0).trans rfl
 have c6_1 := (blk_cell B6.out 1).trans rfl
 go_wp2_with fail
 with_reducible refine (hnd _ HB.out n.f0).mono ?_
 rintro e w9 ⟨rfl, hb⟩
 replace B2 := Aside0.mk (below_blk B2.out hb)
 replace B5 := Aside0.mk (below_blk B5.out hb)
 replace B6 := Aside0.mk (below_blk B6.out hb)
 replace HB := Aside0.mk (below_step HB.out hb)
 clear hb
 clear c5_0 c5_1 c5_2 c5_3 c5_4
 clear c6_0 c6_1
 generalize hq1 : (findN n.f0 (ns.take k)).isSome = q1 at HF ⊢
 clear hq1
 go_upto_region 4 with (fail)
 go_cut [9] from 30 to 35 (fun s9 wx => ∃ A c, s9 = .slice A (n.f1 ++ n.f2).length c ∧ Aside0 ((n.f1 ++ n.f2).length ≤ c) ∧ Aside0 (Kd.string.C wx A (n.f1 ++ n.f2).length (n.f1 ++ n.f2)) ∧ Aside0 (Below w.heap.size w wx) ∧ Aside0 (wx.heap[g2]? = some (.cells #[.slice Ae es.length ce, .slice (some nad) ns.length cn] 25 (0, 0))) ∧ Aside0 (wx.heap[g5]? = some (.cells #[.string n.f0, .slice nA1 (n.f1).length nc1, .slice nA2 (n.f2).length nc2, .slice nA3 (n.f3).length nc3, .slice nA4 (n.f4).length nc4] 35 (0, 0))) ∧ Aside0 (wx.heap[g6]? = some (.cells #[.slice none 0 0, .slice (some nad) k cn] 25 (0, 0))))
 case first =>
   have c5_0 := (blk_cell B5.out 0).trans rfl
   have c5_1 := (blk_cell B5.out 1).trans rfl
   have c5_2 := (blk_cell B5.out 2).trans rfl
   have c5_3 := (blk_cell B5.out 3).trans rfl
   have c5_4 := (blk_cell B5.out 4).trans rfl
   go_region_law (first | (refine Kd.R_append_rows_step Kd.string (w0 := w) w.heap.size (by rfl) (.tmp 32) (.tmp 34) 32 9 (.string ⟨#[]⟩) 16 rfl HU.out info9 rfl (by decide) (by omega) (.slice Ax n.f1.length ax) n.f1 n.f2 nA2 n.f2.length nc2 (fun _ => True) (fun _ => False) (by rfl) (by rfl) HO1.out (Kd.C_below nG2.out HBa.out) (fun _ _ h => h) (fun _ h => h.elim) (fun _ _ => trivial) HBa.out (HBa.out : Below w.heap.size w _).size (by have h_ := HSZ.out; omega) ?_; intro v2 wb ho_ hb_ hg_ hat_; have HO2 := Aside0.mk ho_; have HBb := Aside0.mk hb_; have B2b := Aside0.mk (blk_apart HO1.out hg_ B2a.out (by decide)); have B5b := Aside0.mk (blk_apart HO1.out hg_ B5a.out (by decide)); have B6b := Aside0.mk (blk_apart HO1.out hg_ B6a.out (by decide)); clear ho_ hb_ hg_ hat_) | (refine Kd.R_append_rows_step Kd.string (w0 := w) w.heap.size (by rfl) (.const (.slice none 0 0)) (.tmp 31) 32 9 (.string ⟨#[]⟩) 16 rfl HU.out info9 rfl (by decide) (by omega) (.slice none 0 0) ([] : List ByteArray) n.f1 nA1 n.f1.length nc1 (fun _ => True) (fun _ => False) (by rfl) (by rfl) (Kd.R_nil _ _ _ _ _) (Kd.C_below nG1.out (below_drew1 HB.out)) (fun _ _ h => h) (fun _ h => h.elim) (fun _ _ => trivial) (below_drew1 HB.out) ((below_drew1 HB.out) : Below w.heap.size w _).size (by have h_ := HSZ.out; simp only [List.length_nil]; omega) ?_; intro v1 wa ho_ hb_ hg_ hat_; rw [List.nil_append] at ho_; obtain ⟨Ax, ax, rfl⟩ := Kd.R_slice ho_; have HO1 := Aside0.mk ho_; have HBa := Aside0.mk hb_; have B2a := Aside0.mk (show wa.heap[g2]? = some (.cells #[.slice Ae es.length ce, .slice (some nad) ns.length cn] 25 (0, 0)) from (hg_.block g2 (blk_lt B2.out) (by intro e_; cases e_)).trans B2.out); have B5a := Aside0.mk (show wa.heap[g5]? = some (.cells #[.string n.f0, .slice nA1 (n.f1).length nc1, .slice nA2 (n.f2).length nc2, .slice nA3 (n.f3).length nc3, .slice nA4 (n.f4).length nc4] 35 (0, 0)) from (hg_.block g5 (blk_lt B5.out) (by intro e_; cases e_)).trans B5.out); have B6a := Aside0.mk (show wa.heap[g6]? = some (.cells #[.slice none 0 0, .slice (some nad) k cn] 25 (0, 0)) from (hg_.block g6 (blk_lt B6.out) (by intro e_; cases e_)).trans B6.out); clear ho_ hb_ hg_ hat_; have ca0 := (blk_cell B5a.out 0).trans rfl; have ca1 := (blk_cell B5a.out 1).trans rfl; have ca2 := (blk_cell B5a.out 2).trans rfl; have ca3 := (blk_cell B5a.out 3).trans rfl; have ca4 := (blk_cell B5a.out 4).trans rfl))
   all_goals
     go_wp2_with fail
     go_meet
     case rel =>
       obtain ⟨Ao, co, rfl, hco, hC⟩ := Kd.R_reads HO2.out
       exact ⟨Ao, co, rfl, ⟨hco⟩, ⟨hC⟩, HBb, B2b, B5b, B6b⟩
 case rest =>
   clear HB B2 B5 B6
   obtain ⟨Ab, cb, rfl, HCB, HCR, HB, B2, B5, B6⟩ := hcut
   have hun1 := fun (W : World) (hB : Below wc.heap.size wc W) => zunlike_calls Ab cb (n.f1 ++ n.f2) W (Kd.C_below HCR.out hB) HCB.out (by have := HSZ.out; rw [List.length_append]; omega)
   have hun2 := fun (W : World) (hB : Below w.heap.size w W) => zunlike_calls nA3 nc3 n.f3 W (Kd.C_below nG3.out hB) nL3.out (by have := HSZ.out; omega)
   have hhas := fun (W : World) (hB : Below w.heap.size w W) => zhas_below nA1 nc1 n.f1 n.f0 W (Kd.C_below nG1.out hB) nL1.out (by have := HSZ.out; omega)
   have HK := Aside0.mk (Below.refl wc.heap.size wc)
   generalize hla : n.f1 ++ n.f2 = la at HF hun1 ⊢
   clear hla
   generalize unlikeB la = q2 at HF hun1
   generalize unlikeB n.f3 = q3 at HF hun2
   generalize inB n.f1 n.f0 = q4 at HF hhas
   have c5_0 := (blk_cell B5.out 0).trans rfl
   have c5_1 := (blk_cell B5.out 1).trans rfl
   have c5_2 := (blk_cell B5.out 2).trans rfl
   have c5_3 := (blk_cell B5.out 3).trans rfl
   have c5_4 := (blk_cell B5.out 4).trans rfl
   cases q1 with
   | true =>
     go_wp2_with fail
     go_ret
     exact ⟨by rw [HF.out]; rfl, HB.out⟩
   | false =>
   go_wp2_with fail
   with_reducible refine (hun1 _ HK.out).mono ?_
   rintro e w10 ⟨rfl, hb⟩
   replace B2 := Aside0.mk (below_blk B2.out hb)
   replace B5 := Aside0.mk (below_blk B5.out hb)
   replace B6 := Aside0.mk (below_blk B6.out hb)
   replace HK := Aside0.mk (below_step HK.out hb)
   replace HB := Aside0.mk (below_step HB.out hb)
   clear hb
   clear c5_0 c5_1 c5_2 c5_3 c5_4
   have c5_0 := (blk_cell B5.out 0).trans rfl
   have c5_1 := (blk_cell B5.out 1).trans rfl
   have c5_2 := (blk_cell B5.out 2).trans rfl
   have c5_3 := (blk_cell B5.out 3).trans rfl
   have c5_4 := (blk_cell B5.out 4).trans rfl
   cases q2 with
   | false =>
     go_wp2_with fail
     go_ret
     exact ⟨by rw [HF.out]; rfl, HB.out⟩
   | true =>
   go_wp2_with fail
   with_reducible refine (hun2 _ HB.out).mono ?_
   rintro e w11 ⟨rfl, hb⟩
   replace B2 := Aside0.mk (below_blk B2.out hb)
   replace B5 := Aside0.mk (below_blk B5.out hb)
   replace B6 := Aside0.mk (below_blk B6.out hb)
   replace HK := Aside0.mk (below_step HK.out hb)
   replace HB := Aside0.mk (below_step HB.out hb)
   clear hb
   clear c5_0 c5_1 c5_2 c5_3 c5_4
   have c5_0 := (blk_cell B5.out 0).trans rfl
   have c5_1 := (blk_cell B5.out 1).trans rfl
   have c5_2 := (blk_cell B5.out 2).trans rfl
   have c5_3 := (blk_cell B5.out 3).trans rfl
   have c5_4 := (blk_cell B5.out 4).trans rfl
   cases q3 with
   | false =>
     go_wp2_with fail
     go_ret
     exact ⟨by rw [HF.out]; rfl, HB.out⟩
   | true =>
   go_wp2_with fail
   with_reducible refine (hhas _ HB.out).mono ?_
   rintro e w12 ⟨rfl, hb⟩
   replace B2 := Aside0.mk (below_blk B2.out hb)
   replace B5 := Aside0.mk (below_blk B5.out hb)
   replace B6 := Aside0.mk (below_blk B6.out hb)
   replace HK := Aside0.mk (below_step HK.out hb)
   replace HB := Aside0.mk (below_step HB.out hb)
   clear hb
   clear c5_0 c5_1 c5_2 c5_3 c5_4
   have c5_0 := (blk_cell B5.out 0).trans rfl
   have c5_1 := (blk_cell B5.out 1).trans rfl
   have c5_2 := (blk_cell B5.out 2).trans rfl
   have c5_3 := (blk_cell B5.out 3).trans rfl
   have c5_4 := (blk_cell B5.out 4).trans rfl
   cases q4 with
   | true =>
     go_wp2_with fail
     go_ret
     exact ⟨by rw [HF.out]; rfl, HB.out⟩
   | false =>
   have HF2 := Aside0.mk (show headB m n = n.f1.all (fun f => !(findN f (ns.take k)).isSome) by rw [HF.out]; rfl)
   clear HF hun1 hun2 hhas HK HCR HCB
   go_wp2_with fail
   clear c5_0 c5_1 c5_2 c5_3 c5_4
   go_loopg [10] n.f1.length (fun gg s_ wr => ∃ (kkb : Nat), kkb ≤ n.f1.length ∧ n.f1.length - kkb ≤ gg ∧ s_ = .int .i64 kkb ∧ Aside0 (Below w.heap.size w wr) ∧ Aside0 (wr.heap[g2]? = some (.cells #[.slice Ae es.length ce, .slice (some nad) ns.length cn] 25 (0, 0))) ∧ Aside0 (wr.heap[g5]? = some (.cells #[.string n.f0, .slice nA1 (n.f1).length nc1, .slice nA2 (n.f2).length nc2, .slice nA3 (n.f3).length nc3, .slice nA4 (n.f4).length nc4] 35 (0, 0))) ∧ Aside0 (wr.heap[g6]? = some (.cells #[.slice none 0 0, .slice (some nad) k cn] 25 (0, 0))) ∧ Aside0 (∀ j, j < kkb → (fun f => !(findN f (ns.take k)).isSome) (n.f1.getD j (⟨#[]⟩ : ByteArray)) = true))
   case atStart => exact ⟨0, Nat.zero_le _, by omega, rfl, HB, B2, B5, B6, ⟨fun j hj => absurd hj (Nat.not_lt_zero _)⟩⟩
   case round =>
     clear HB B2 B5 B6
     obtain ⟨kkb, hkkb, hgkkb, rfl, HB, B2, B5, B6, Nb⟩ := hrel
     have hmxb : n.f1.length ≤ 9223372036854775807 := (nG1.out).2.1
     by_cases hltb : kkb < n.f1.length
     · have hltzb : (kkb : Int) < (n.f1.length : Int) := by omega
       obtain ⟨sad, scs, hs_, _, sK, scc⟩ := Kd.C_get nG1.out (⟨#[]⟩ : ByteArray) (kkb : Int) (by omega) (by omega)
       obtain rfl := sK
       subst hs_
       have sx0 := (HB.out.cell (World.block_lt_of_cell? w _ (scc 0 _ rfl))).trans (scc 0 _ rfl)
       simp only [show Kd.string.sz = 1 from rfl, Nat.mul_one, Nat.add_zero, Int.toNat_natCast] at sx0
       clear scc
       try simp only [Int.toNat_natCast] at sx0
       generalize Ys0 : n.f1.getD kkb (⟨#[]⟩ : ByteArray) = s at sx0
       have Ys := Aside0.mk Ys0; clear Ys0
       have c5_0 := (blk_cell B5.out 0).trans rfl
       have c5_1 := (blk_cell B5.out 1).trans rfl
       have c5_2 := (blk_cell B5.out 2).trans rfl
       have c5_3 := (blk_cell B5.out 3).trans rfl
       have c5_4 := (blk_cell B5.out 4).trans rfl
       have c6_0 := (blk_cell B6.out 0).trans rfl
       have c6_1 := (blk_cell B6.out 1).trans rfl
       go_wp2_with fail
       go_cut [12] from 62 to 71 (fun s_ wx => s_ = .bool (findN s (ns.take k)).isSome ∧ Aside0 (Below w.heap.size w wx) ∧ Aside0 (wx.heap[g2]? = some (.cells #[.slice Ae es.length ce, .slice (some nad) ns.length cn] 25 (0, 0))) ∧ Aside0 (wx.heap[g5]? = some (.cells #[.string n.f0, .slice (some sad) (n.f1).length nc1, .slice nA2 (n.f2).length nc2, .slice nA3 (n.f3).length nc3, .slice nA4 (n.f4).length nc4] 35 (0, 0))) ∧ Aside0 (wx.heap[g6]? = some (.cells #[.slice none 0 0, .slice (some nad) k cn] 25 (0, 0))))
       case first =>
         go_region_with (with_reducible refine (hnd _ (below_drew1 HB.out) s).mono ?_; rintro e w13 ⟨rfl, hb⟩; have B2_ := Aside0.mk (below_blk (blk_drew B2.out) hb); have B5_ := Aside0.mk (below_blk (blk_drew B5.out) hb); have B6_ := Aside0.mk (below_blk (blk_drew B6.out) hb); have HB_ := Aside0.mk (below_step (below_drew1 HB.out) hb); clear hb)
         all_goals
           go_wp2_with fail
           go_meet
           case rel => exact ⟨rfl, HB_, B2_, B5_, B6_⟩
       case rest =>
         clear HB B2 B5 B6
         obtain ⟨rfl, HB, B2, B5, B6⟩ := hcut
         clear c5_0 c5_1 c5_2 c5_3 c5_4
         clear c6_0 c6_1
         clear sx0
         cases hq : (findN s (ns.take k)).isSome with
         | true =>
           have HQ := Aside0.mk hq; clear hq
           go_wp2_with fail
           go_ret
           exact ⟨by rw [HF2.out, all_getD_no n.f1 (fun f => !(findN f (ns.take k)).isSome) (⟨#[]⟩ : ByteArray) kkb hltb (by rw [Ys.out, HQ.out]; rfl)]; rfl, HB.out⟩
         | false =>
           have HQ := Aside0.mk hq; clear hq
           go_wp2_with fail
           go_roundg (n.f1.length - (kkb + 1))
           case measure => omega
           case rel => exact ⟨kkb + 1, by omega, by omega, by go_num, HB, B2, B5, B6, ⟨zupto_step (P := fun f => !(findN f (ns.take k)).isSome) Nb.out Ys.out (by rw [HQ.out]; rfl)⟩⟩
     · have hltzb : ¬ (kkb : Int) < (n.f1.length : Int) := by omega
       obtain rfl : kkb = n.f1.length := by omega
       have HALL := Aside0.mk (all_getD n.f1 (fun f => !(findN f (ns.take k)).isSome) (⟨#[]⟩ : ByteArray) Nb.out)
       have c5_0 := (blk_cell B5.out 0).trans rfl
       have c5_1 := (blk_cell B5.out 1).trans rfl
       have c5_2 := (blk_cell B5.out 2).trans rfl
       have c5_3 := (blk_cell B5.out 3).trans rfl
       have c5_4 := (blk_cell B5.out 4).trans rfl
       go_wp2_with fail
       go_ret
       exact ⟨by rw [HF2.out, HALL.out]; rfl, HB.out⟩
end Go.Proofs.YtggfnbnochmkdaaGreat
