/- The law ScopeFaults: its walk; a program of little bulk stays within its bounds. -/
import Derived.Test.YtggfnbnochmkdaaGreatZk
namespace Go.Proofs.YtggfnbnochmkdaaGreat
open Go Go.RowKit Go.Lib Go.Proofs.YtggfnbnochmkdaaGreatW.PrintWords Go.Proofs.YtggfnbnochmkdaaGreat.PScope
set_option maxRecDepth 100000
set_option linter.unusedSimpArgs false
set_option linter.unusedVariables false
theorem mem_le {α : Type} (wt : α → Nat) (l : List α) (x : α) (h : x ∈ l) : wt x ≤ (l.map wt).sum := by
 induction l with
 | nil => cases h
 | cons a r ih =>
   rw [List.map_cons, List.sum_cons]
   rcases List.mem_cons.1 h with rfl | h
   · omega
   · have := ih h; omega
theorem getD_mem2 {α : Type} (l : List α) (z : α) (i : Nat) (hi : i < l.length) : l.getD i z ∈ l := by
 rw [List.getD_eq_getElem?_getD, List.getElem?_eq_getElem hi]; exact List.getElem_mem hi
theorem nodeSt_le (n : S35) : (nodeSt n).length ≤ vNd n := by
 unfold nodeSt vNd
 have := flat_le stNames vIt n.f4 (fun x _ => by
   unfold stNames vIt
   rw [List.length_map]
   have := len_le vSt (fun s => by unfold vSt; omega) x.f1
   omega)
 omega
theorem states_le {ns : List S35} {k b : Nat} (hk : k < ns.length) : (statesL ns k b).length ≤ (ns.map vNd).sum := by
 have h1 : (statesL ns k b).length ≤ ((ns.take (k + 1)).flatMap nodeSt).length := by
   rw [flatMap_take ns nodeSt z35 k hk]
   unfold statesL
   rw [List.length_append, List.length_append]
   have := flatMap_take_le (ns.getD k z35).f4 stNames b
   show _ ≤ _ + ((ns.getD k z35).f4.flatMap stNames).length
   omega
 have h2 := flatMap_take_le ns nodeSt (k + 1)
 have h3 := flat_le nodeSt vNd ns (fun n _ => nodeSt_le n)
 omega
theorem progSz_of {es : List S38} {ns : List S35} (hq : ∀ n ∈ ns, qNd n) (hb : (es.map vEn).sum + (ns.map vNd).sum ≤ 1048576) : ProgSz es ns := by
 have hN : ∀ n, n ∈ ns → vNd n ≤ 1048576 := fun n hn => by have := mem_le vNd ns n hn; omega
 have hI : ∀ n, n ∈ ns → ∀ x, x ∈ n.f4 → vIt x ≤ 1048576 := fun n hn x hx => by have := it_at hx; have := hN n hn; omega
 refine ⟨fun t ht => ?_, fun k hk => ?_, hq, fun made k hk hnb => ?_⟩
 · have h1 := mem_le vEn es t ht
   have h2 : vEn t = 1 + (t.f1.map vS).sum := rfl
   rw [sum_vS] at h2
   omega
 · have := ndEx_le (ns.getD k z35)
   have := hN _ (getD_mem2 ns z35 k hk)
   omega
 · have hm := getD_mem2 ns z35 k hk
   generalize hn : ns.getD k z35 = n at hnb hm ⊢
   have hv := hN n hm
   refine ⟨fun n2 hn2 => ⟨?_, fun x hx => ?_⟩, fun b _ => ?_, ?_, fun b hb2 => ?_, ?_⟩
   · have := items_len n2; have := hN n2 hn2; omega
   · have h1 := hI n2 hn2 x hx
     have h2 := len_le vSt (fun s => by unfold vSt; omega) x.f1
     have h3 : vIt x = 1 + vEq x.f0 + (x.f1.map vSt).sum := rfl
     omega
   · have := states_le (b := b) hk; omega
   · have := varsL_le n; omega
   · have hx := getD_mem2 n.f4 z47 b hb2
     generalize n.f4.getD b z47 = x at hx ⊢
     have h1 := hI n hm x hx
     have h3 : vIt x = 1 + vEq x.f0 + (x.f1.map vSt).sum := rfl
     refine ⟨Nat.le_trans (definesL_le x) h1, ?_, fun i hi => ?_⟩
     · have h2 := len_le vSt (fun s => by unfold vSt; omega) x.f1
       omega
     · have h4 := mem_le vSt x.f1 _ (getD_mem2 x.f1 z65 i hi)
       generalize x.f1.getD i z65 = s at h4 ⊢
       have h5 := len_le vEq (fun q => by unfold vEq; omega) s.f1
       have h6 : vSt s = 1 + (s.f1.map vEq).sum + (s.f2.map vWay).sum := rfl
       omega
   · unfold nodeB at hnb
     simp only [Bool.and_eq_true] at hnb
     obtain ⟨_, h1, h2, h3, _, _⟩ := hnb
     have a1 := allB_len h1
     have a2 := allB_len h2
     have a3 := allB_len h3
     exact ⟨by omega, by omega, by omega⟩
set_option maxHeartbeats 16000000 in
theorem scopeFaults_calls (es : List S38) (ns : List S35) (Ae An : Option Addr) (ce cn : Nat) (w : World) (he : k38.C w Ae es.length es) (hn : k35.C w An ns.length ns) (hce : es.length ≤ ce) (hcn : ns.length ≤ cn) (hz : ProgSz es ns) :
   Calls Tryz.prog 3 #[.agg #[.slice Ae es.length ce, .slice An ns.length cn]] w fun e w' => e = .returned (.bool true) ∧ Below w.heap.size w w' := by
 have HB := Aside0.mk (Below.refl w.heap.size w)
 have hli := fun W => lives_calls W
 have hck := fun (made : Bool) (W : World) (hB : Below w.heap.size w W) => check_calls made es ns Ae An ce cn W (Kd.C_below he hB) (Kd.C_below hn hB)
 have hzk := fun (made : Bool) (W : World) (hB : Below w.heap.size w W) => zcheck_calls made es ns Ae An ce cn W (Kd.C_below he hB) hce (Kd.C_below hn hB) hcn hz
 have hc1 := hck false
 have hc2 := hck true
 have hz1 := hzk false
 have hz2 := hzk true
 clear hck hzk he hn hz
 generalize checkR false es ns = C at hc1 hz1
 generalize checkR true es ns = D at hc2 hz2
 obtain ⟨a1, a2, a3⟩ := C
 obtain ⟨d1, d2, d3⟩ := D
 simp only at hc1 hc2 hz1 hz2
 have hu1 := Tryz.underlying25; have hu2 := Tryz.underlying29
 have hu3 := Tryz.underlying27; have hu4 := Tryz.underlying3
 go_enter Tryz.func3, Tryz.ntmps3
 go_upto_region 1 with ((with_reducible refine gate_dst (N := 1) rfl ?_); refine box_event ?hg (N := 1) ?hd (cs := #[.slice Ae es.length ce, .slice An ns.length cn]) (t := 25) ?hr ?_; (case hd => rfl); (case hg => rfl); (case hr => first | (go_simp; done) | (go_simp; rfl)); intro g1 hg_ w_ hbox hb; have B1 := Aside0.mk hbox; have LB1 := Aside0.mk ((by rw [hg_]; exact below_size HB.out) : w.heap.size ≤ g1); replace HB := Aside0.mk (below_step HB.out hb); clear hb hbox hg_; have c1_0 := (blk_cell B1.out 0).trans rfl; have c1_1 := (blk_cell B1.out 1).trans rfl)
 go_region_with (first | (with_reducible refine (hli _).mono ?_; rintro e_ wn ⟨rfl, hb_⟩; have B1_ := Aside0.mk (below_blk (by first | exact B1.out | exact blk_drew B1.out) hb_); have HB_ := Aside0.mk (below_step (by first | exact HB.out | exact below_drew1 HB.out) hb_); clear hb_ B1 HB; have B1 := B1_; have HB := HB_; clear B1_ HB_; have c1n := (blk_cell B1.out 0).trans rfl; have c1m := (blk_cell B1.out 1).trans rfl) | (with_reducible refine (hc1 _ (by first | exact HB.out | exact below_drew1 HB.out)).mono ?_; rintro e_ wn ⟨rfl, hb_⟩; have B1_ := Aside0.mk (below_blk (by first | exact B1.out | exact blk_drew B1.out) hb_); have HB_ := Aside0.mk (below_step (by first | exact HB.out | exact below_drew1 HB.out) hb_); clear hb_ B1 HB; have B1 := B1_; have HB := HB_; clear B1_ HB_; have c1n := (blk_cell B1.out 0).trans rfl; have c1m := (blk_cell B1.out 1).trans rfl) | (with_reducible refine (hz1 _ (by first | exact HB.out | exact below_drew1 HB.out)).mono ?_; rintro e_ wn ⟨rfl, hb_⟩; have B1_ := Aside0.mk (below_blk (by first | exact B1.out | exact blk_drew B1.out) hb_); have HB_ := Aside0.mk (below_step (by first | exact HB.out | exact below_drew1 HB.out) hb_); clear hb_ B1 HB; have B1 := B1_; have HB := HB_; clear B1_ HB_; have c1n := (blk_cell B1.out 0).trans rfl; have c1m := (blk_cell B1.out 1).trans rfl) | (with_reducible refine (hc2 _ (by first | exact HB.out | exact below_drew1 HB.out)).mono ?_; rintro e_ wn ⟨rfl, hb_⟩; have B1_ := Aside0.mk (below_blk (by first | exact B1.out | exact blk_drew B1.out) hb_); have HB_ := Aside0.mk (below_step (by first | exact HB.out | exact below_drew1 HB.out) hb_); clear hb_ B1 HB; have B1 := B1_; have HB := HB_; clear B1_ HB_; have c1n := (blk_cell B1.out 0).trans rfl; have c1m := (blk_cell B1.out 1).trans rfl) | (with_reducible refine (hz2 _ (by first | exact HB.out | exact below_drew1 HB.out)).mono ?_; rintro e_ wn ⟨rfl, hb_⟩; have B1_ := Aside0.mk (below_blk (by first | exact B1.out | exact blk_drew B1.out) hb_); have HB_ := Aside0.mk (below_step (by first | exact HB.out | exact below_drew1 HB.out) hb_); clear hb_ B1 HB; have B1 := B1_; have HB := HB_; clear B1_ HB_; have c1n := (blk_cell B1.out 0).trans rfl; have c1m := (blk_cell B1.out 1).trans rfl))
 all_goals
   go_wp2_with fail
   go_ret
   exact ⟨rfl, HB.out⟩
end Go.Proofs.YtggfnbnochmkdaaGreat
