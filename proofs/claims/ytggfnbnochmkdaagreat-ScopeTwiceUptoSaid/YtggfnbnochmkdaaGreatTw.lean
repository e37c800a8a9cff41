/- The law ScopeTwice: its walk. -/
import Derived.Deep.RegionLaw
import Derived.Test.YtggfnbnochmkdaaGreatQj
import Derived.Test.YtggfnbnochmkdaaGreatRa
namespace Go.Proofs.YtggfnbnochmkdaaGreat
open Go Go.RowKit Go.Lib Go.Proofs.YtggfnbnochmkdaaGreatW.PrintWords Go.Proofs.YtggfnbnochmkdaaGreat.PScope
set_option maxRecDepth 100000
set_option linter.unusedSimpArgs false
set_option linter.unusedVariables false

theorem infoN : (Tryz.prog.info? 35).map (fun i => (i.zero, i.size, i.bytes)) = some (some (.agg #[.string ⟨#[]⟩, .slice none 0 0, .slice none 0 0, .slice none 0 0, .slice none 0 0]), 5, 112) := by kernel_rfl
theorem infoE : (Tryz.prog.info? 38).map (fun i => (i.zero, i.size, i.bytes)) = some (some (.agg #[.string ⟨#[]⟩, .slice none 0 0]), 2, 40) := by kernel_rfl
theorem infoI : (Tryz.prog.info? 47).map (fun i => (i.zero, i.size, i.bytes)) = some (some (.agg #[.slice none 0 0, .int .i64 0, .string ⟨#[]⟩, .int .i64 0, .slice none 0 0, .slice none 0 0, .slice none 0 0]), 7, 128) := by kernel_rfl
theorem grown_none {W w1 : World} {v : Value} {g : Nat} {ob : Obj} (hg : W.grownBy w1 v.ownBlock) (hv : v.ownBlock = none) (h : W.heap[g]? = some ob) : w1.heap[g]? = some ob :=
  (hg.block g (blk_lt h) (by rw [hv]; intro e; cases e)).trans h
theorem ne_EP {w : World} : ∀ q, q ∈ 38 :: (kRead (α := S38) w k38).E → q ≠ 25 := fun q hq => by
  rcases List.mem_cons.1 hq with rfl | h_
  · decide
  · cases h_
theorem ne_NP {w : World} : ∀ q, q ∈ 35 :: (kRead (α := S35) w k35).E → q ≠ 25 := fun q hq => by
  rcases List.mem_cons.1 hq with rfl | h_
  · decide
  · cases h_
theorem ne_EN {w : World} : ∀ q, q ∈ 38 :: (kRead (α := S38) w k38).E → q ≠ 35 := fun q hq => by
  rcases List.mem_cons.1 hq with rfl | h_
  · decide
  · cases h_
theorem ne_NE {w : World} : ∀ q, q ∈ 35 :: (kRead (α := S35) w k35).E → q ≠ 38 := fun q hq => by
  rcases List.mem_cons.1 hq with rfl | h_
  · decide
  · cases h_
theorem ne_EI {w : World} : ∀ q, q ∈ 38 :: (kRead (α := S38) w k38).E → q ≠ 47 := fun q hq => by
  rcases List.mem_cons.1 hq with rfl | h_
  · decide
  · cases h_
theorem ne_NI {w : World} : ∀ q, q ∈ 35 :: (kRead (α := S35) w k35).E → q ≠ 47 := fun q hq => by
  rcases List.mem_cons.1 hq with rfl | h_
  · decide
  · cases h_
theorem ne_IN {w : World} : ∀ q, q ∈ 47 :: (kRead (α := S47) w k47).E → q ≠ 35 := fun q hq => by
  rcases List.mem_cons.1 hq with rfl | h_
  · decide
  · cases h_
/-- Another row, of another type, has grown. -/
theorem R_apart2 {α : Type} {d : Kd α} {e t : TypeId} {W W1 : World} {base g : Nat} {ok : Nat → Prop} {v : Value} {xs : List α} {cs : Array Value} (h : d.R e W base ok v xs) (hb : W.heap[g]? = some (.cells cs t (0, 0))) (ht : ∀ q, q ∈ e :: d.E → q ≠ t) (hg : W.grownBy W1 (some g)) : d.R e W1 base ok v xs :=
  Kd.R_mono (Kd.R_grown (Kd.R_types h hb ht) hg (fun k hk e_ => hk.2 (Option.some.inj e_))) (fun _ hk => hk.1)
/-- Another row, of another type, has grown. -/
theorem R_apart3 {α β : Type} {d : Kd α} {d2 : Kd β} {e e2 : TypeId} {W W1 : World} {base base2 : Nat} {ok ok2 : Nat → Prop} {v v2 : Value} {xs : List α} {ys : List β} (h : d.R e W base ok v xs) (h2 : d2.R e2 W base2 ok2 v2 ys) (ht : ∀ q, q ∈ e :: d.E → q ≠ e2) (hg : W.grownBy W1 v2.ownBlock) : d.R e W1 base ok v xs := by
  obtain ⟨_, inner, ho, _⟩ := h2
  cases hv : v2.ownBlock with
  | none => rw [hv] at hg; exact Kd.R_grown h hg (fun k _ e_ => by cases e_)
  | some g =>
    obtain ⟨cells, hc⟩ := own_typed ho g hv
    rw [hv] at hg
    exact R_apart2 h hc ht hg
theorem vNd_more (n : S35) (x : S47) : vNd (moreItem n x) = vNd n + vIt x := by
  unfold vNd moreItem
  simp only [List.map_append, List.sum_append, List.map_cons, List.map_nil, List.sum_cons, List.sum_nil]
  omega
/-- The first node's items are written anew. -/
theorem node_poke {w W : World} {g : Nat} {ns : List S35} {cur : Array Value} {y : S35} {x : S47} {A1 A2 A3 Az A4 : Option Addr} {c1 c2 c3 az c4 l4 : Nat}
    (hN : (kRead w k35).C W (some ⟨g, 0, none⟩) ns.length ns) (hpos : 0 < ns.length) (hst : Below w.heap.size w (W.setCell ⟨g, 4, none⟩ (.slice Az (y.f4.length + 1) az))) (hb : W.heap[g]? = some (.cells cur 35 (0, 0))) (hy : ns.getD 0 z35 = y)
    (q0 : cur[0]? = some (.string y.f0)) (q1 : cur[1]? = some (.slice A1 y.f1.length c1)) (q2 : cur[2]? = some (.slice A2 y.f2.length c2)) (q3 : cur[3]? = some (.slice A3 y.f3.length c3)) 
    (l1 : y.f1.length ≤ c1) (g1 : Kd.string.C w A1 y.f1.length y.f1) (l2 : y.f2.length ≤ c2) (g2 : Kd.string.C w A2 y.f2.length y.f2) (l3 : y.f3.length ≤ c3) (g3 : Kd.string.C w A3 y.f3.length y.f3)
    (hI : k47.C (W.setCell ⟨g, 4, none⟩ (.slice Az (y.f4.length + 1) az)) Az (y.f4 ++ [x]).length (y.f4 ++ [x])) (hz : y.f4.length + 1 ≤ az) (q4 : cur[4]? = some (.slice A4 l4 c4)) :
    k35.C (W.setCell ⟨g, 4, none⟩ (.slice Az (y.f4.length + 1) az)) (some ⟨g, 0, none⟩) ns.length (moreItem y x :: ns.drop 1) := by
  generalize hW : W.setCell ⟨g, 4, none⟩ (.slice Az (y.f4.length + 1) az) = wz at hst hI ⊢
  have hbz : wz.heap[g]? = some (.cells (cur.setIfInBounds 4 (.slice Az (y.f4.length + 1) az)) 35 (0, 0)) := by rw [← hW]; exact blk_set hb 4 _
  have h4lt : 4 < cur.size := by have := (Array.getElem?_eq_some_iff.1 q4).1; exact this
  have hat : ∀ k, k ≠ 4 → wz.cell? ⟨g, k, none⟩ = cur[k]? := fun k hk => by rw [blk_cell hbz k, Array.getElem?_setIfInBounds_ne (by omega)]
  have hat4 : wz.cell? ⟨g, 4, none⟩ = some (.slice Az (y.f4.length + 1) az) := by rw [blk_cell hbz 4, Array.getElem?_setIfInBounds_self_of_lt h4lt]
  obtain ⟨a1, a2, a3⟩ := hN
  refine ⟨by rw [List.length_cons, List.length_drop]; omega, a2, fun hn => ?_⟩
  obtain ⟨ad, e, hh⟩ := a3 hn
  obtain rfl := (Option.some.inj e).symm
  refine ⟨_, rfl, fun j p hj => ?_⟩
  cases j with
  | zero =>
    obtain rfl : moreItem y x = p := by simpa using hj
    refine ⟨[.string y.f0, .slice A1 y.f1.length c1, .slice A2 y.f2.length c2, .slice A3 y.f3.length c3, .slice Az (y.f4 ++ [x]).length az], rfl, k35_mk wz (moreItem y x) l1 (Kd.C_below g1 hst) l2 (Kd.C_below g2 hst) l3 (Kd.C_below g3 hst) (by rw [show (moreItem y x).f4 = y.f4 ++ [x] from rfl, List.length_append]; simpa using hz) hI, fun i u hi => ?_⟩
    rw [Nat.zero_mul, Nat.zero_add, add_plain]
    match i, hi with
    | 0, hi => rw [hat 0 (by omega), q0]; exact hi
    | 1, hi => rw [hat 1 (by omega), q1]; exact hi
    | 2, hi => rw [hat 2 (by omega), q2]; exact hi
    | 3, hi => rw [hat 3 (by omega), q3]; exact hi
    | 4, hi => rw [hat4, show y.f4.length + 1 = (y.f4 ++ [x]).length by simp]; exact hi
    | i + 5, hi => simp at hi
  | succ j =>
    have hj2 : ns[j + 1]? = some p := by
      rw [List.getElem?_cons_succ, List.getElem?_drop] at hj
      rw [Nat.add_comm]; exact hj
    obtain ⟨cs, k1, k2, k3⟩ := hh (j + 1) p hj2
    refine ⟨cs, k1, k35.K_below hst k2, fun i u hi => ?_⟩
    have h5 := k3 i u hi
    rw [add_plain] at h5 ⊢
    have hne : (j + 1) * k35.sz + i ≠ 4 := by show (j + 1) * 5 + i ≠ 4; omega
    rw [hat _ hne, ← blk_cell hb]
    exact h5
theorem getD_mem {α : Type} (xs : List α) (z : α) (h : 0 < xs.length) : xs.getD 0 z ∈ xs := by
  cases xs with
  | nil => simp at h
  | cons a r => exact List.mem_cons_self ..
theorem three_m (n : Int) : wrap64 ((IntKind.u64.wrap n).tmod 3) = 0 ∨ wrap64 ((IntKind.u64.wrap n).tmod 3) = 1 ∨ wrap64 ((IntKind.u64.wrap n).tmod 3) = 2 := by
  have h0 : 0 ≤ IntKind.u64.wrap n := by unfold IntKind.wrap; simp [IntKind.signed]; omega
  have h1 : (IntKind.u64.wrap n).tmod 3 = (IntKind.u64.wrap n) % 3 := Int.tmod_eq_emod_of_nonneg h0
  rw [h1]
  have h2 : (IntKind.u64.wrap n) % 3 = 0 ∨ (IntKind.u64.wrap n) % 3 = 1 ∨ (IntKind.u64.wrap n) % 3 = 2 := by omega
  rcases h2 with h | h | h <;> rw [h]
  · left; decide +kernel
  · right; left; decide +kernel
  · right; right; decide +kernel
theorem ndEx_all {ns : List S35} {B : Nat} (hB : B ≤ 4194304) (h : ∀ n, n ∈ ns → vNd n ≤ B) : ∀ k, k < ns.length → (ndEx (ns.getD k z35)).length ≤ 4194304 := fun k hk => by
  rw [List.getD_eq_getElem?_getD, List.getElem?_eq_getElem hk]
  exact Nat.le_trans (ndEx_le _) (Nat.le_trans (h _ (List.getElem_mem hk)) hB)
/-- A row that is not empty has a block of its own. -/
theorem row_block {α : Type} {d : Kd α} {e : TypeId} {W : World} {base : Nat} {ok : Nat → Prop} {A : Option Addr} {n c : Nat} {xs : List α} (h : d.R e W base ok (.slice A n c) xs) (hp : 0 < xs.length) :
    ∃ g cur, A = some ⟨g, 0, none⟩ ∧ Aside0 (base ≤ g) ∧ Aside0 (W.heap[g]? = some (.cells cur e (0, 0))) := by
  obtain ⟨_, inner, ho, hr⟩ := h
  rcases ho.2 with ⟨h0, hi⟩ | ⟨g, cap, cur, hv, hg, hh, r⟩
  · exfalso
    injection h0 with _ h1 _
    have := (Kd.R_reads' (d := d) (e := e) (w := W) (base := base) (ok := ok) (A := A) (n := n) (c := c) (xs := xs) ⟨by assumption, inner, ho, hr⟩).1
    omega
  · injection hv with h1 _ _
    exact ⟨g, cur, h1, ⟨hg⟩, ⟨hh⟩⟩

set_option maxHeartbeats 16000000 in
theorem scopeTwice_calls (es : List S38) (ns : List S35) (Ae An : Option Addr) (ce cn : Nat) (n : Int) (w : World) (he : k38.C w Ae es.length es) (hn : k35.C w An ns.length ns) (hce : es.length ≤ ce) (hcn : ns.length ≤ cn) (hq : ∀ n ∈ ns, qNd n) (hb : (es.map vEn).sum + (ns.map vNd).sum ≤ 1048576) :
    Calls Tryz.prog 4 #[.agg #[.slice Ae es.length ce, .slice An ns.length cn], .int .i64 n] w fun e w' => e = .returned (.bool true) ∧ Below w.heap.size w w' := by
  have HE := Aside0.mk he; have HN := Aside0.mk hn; have HB := Aside0.mk (Below.refl w.heap.size w); have HQ := Aside0.mk hq; have HBK := Aside0.mk hb
  have HUE := Aside0.mk Tryz.underlying22
  have HUN := Aside0.mk Tryz.underlying23
  have HUI := Aside0.mk Tryz.underlying33
  have HCE := Aside0.mk hce; have HCN := Aside0.mk hcn
  clear hce hcn
  have HLE := Aside0.mk (show es.length ≤ 1048576 from enums_len (by omega))
  have HLN := Aside0.mk (show ns.length ≤ 1048576 from nodes_len (by omega))
  have hli := fun W => lives_calls W
  have hck := fun (W : World) (hB : Below w.heap.size w W) => check_calls true es ns Ae An ce cn W (Kd.C_below he hB) (Kd.C_below hn hB)
  have HNE := Aside0.mk (checkR_nonempty (made := true) (es := es) (ns := ns))
  clear he hn hq hb
  generalize checkR true es ns = C at hck HNE
  obtain ⟨c1, c2, c3⟩ := C
  simp only at hck
  have hu1 := Tryz.underlying25
  have hu2 := Tryz.underlying29
  have hu3 := Tryz.underlying27
  have hu4 := Tryz.underlying35
  have hu5 := Tryz.underlying38
  have hu6 := Tryz.underlying47
  have hfd : ∀ (W : World) (a b c : Int), (Instr.field 29 (.agg #[.int .i64 a, .int .i64 b, .int .i64 c]) 0).run Tryz.prog W = .ok (.int .i64 a) W := fun _ _ _ _ => by kernel_rfl
  go_enter Tryz.func4, Tryz.ntmps4
  go_wp2_with ((with_reducible refine gate_dst (N := 2) rfl ?_); refine box_event ?hg (N := 2) ?hd (cs := #[.slice Ae es.length ce, .slice An ns.length cn]) (t := 25) ?hr ?_; (case hd => rfl); (case hg => rfl); (case hr => first | (go_simp; done) | (go_simp; rfl)); intro g2 hg_ w_ hbox hb; have B2 := Aside0.mk hbox; have LB2 := Aside0.mk ((by rw [hg_]; exact below_size HB.out) : w.heap.size ≤ g2); replace HB := Aside0.mk (below_step HB.out hb); clear hb hbox hg_; have c2_0 := (blk_cell B2.out 0).trans rfl; have c2_1 := (blk_cell B2.out 1).trans rfl)
  refine (hli _).mono ?_
  rintro e w3 ⟨rfl, hb⟩
  replace B2 := Aside0.mk (below_blk B2.out hb)
  replace HB := Aside0.mk (below_step HB.out hb)
  clear hb hli c2_0 c2_1
  have c2_0 := (blk_cell B2.out 0).trans rfl
  have c2_1 := (blk_cell B2.out 1).trans rfl
  go_wp2_with fail
  refine (hck _ HB.out).mono ?_
  rintro e w4 ⟨rfl, hb⟩
  replace B2 := Aside0.mk (below_blk B2.out hb)
  replace HB := Aside0.mk (below_step HB.out hb)
  clear hb hck c2_0 c2_1
  have c2_0 := (blk_cell B2.out 0).trans rfl
  have c2_1 := (blk_cell B2.out 1).trans rfl
  by_cases e0 : c1 ≠ 0
  · have t0 : (c1 != 0) = true := by rw [bne, beq_eq_false_iff_ne.2 e0]; rfl
    clear e0 HNE
    go_wp2_with fail
    go_ret
    exact ⟨rfl, HB.out⟩
  obtain rfl : c1 = 0 := by omega
  have hpos := HNE.out rfl
  have HPOS := Aside0.mk hpos
  clear HNE
  have t1 : ((ns.length : Int) == 0) = false := beq_eq_false_iff_ne.2 (by omega)
  go_upto_region 7 with (fail)
  clear t1 hpos c2_0 c2_1
  go_cut [5] from 18 to 24 (fun s5 wx => ∃ g5 A1 a1 A2 a2, s5 = .pointer (some ⟨g5, 0, none⟩) ∧ Aside0 (Below w.heap.size w wx) ∧ Aside0 (w.heap.size ≤ g5) ∧ Aside0 (wx.heap[g5]? = some (.cells #[.slice A1 es.length a1, .slice A2 ns.length a2] 25 (0, 0))) ∧ Aside0 ((kRead w k38).R 38 wx w.heap.size (fun _ => True) (.slice A1 es.length a1) es) ∧ Aside0 ((kRead w k35).R 35 wx w.heap.size (fun _ => True) (.slice A2 ns.length a2) ns))
  case first =>
    have c2_0 := (blk_cell B2.out 0).trans rfl
    have c2_1 := (blk_cell B2.out 1).trans rfl
    have d0 := fun o => (blk_cell (blk_alloc B2.out o) 0).trans rfl
    have d1 := fun o => (blk_cell (blk_alloc B2.out o) 1).trans rfl
    go_region_law (first | (have hbx := HBb.out; refine Kd.R_append_rows_step (kRead w k38) (Rr := k38.K w) (w0 := w) w.heap.size (by rfl) (.const (.slice none 0 0)) (.tmp 19) 22 38 (.agg #[.string ⟨#[]⟩, .slice none 0 0]) 40 rfl HUE.out infoE rfl (by show 0 < 2; decide) (by omega) (.slice none 0 0) ([] : List S38) es Ae es.length ce (fun _ => True) (fun _ => False) (by rfl) (by rfl) (Kd.R_nil _ _ _ _ _) (kRead_row HE.out (by repeat (first | exact hbx | apply below_alloc | apply below_drew1))) (fun _ _ h => h) (fun _ h => h.elim) (fun _ _ => trivial) (by repeat (first | exact hbx | apply below_alloc | apply below_drew1)) ((by repeat (first | exact hbx | apply below_alloc | apply below_drew1)) : Below w.heap.size w _).size (by have h_ := HLE.out; simp only [List.length_nil]; omega) ?_; intro v1 wa ho_ hb_ hg_ hat_; rw [List.nil_append] at ho_; obtain ⟨Ax, ax, rfl⟩ := Kd.R_slice ho_; have HO1 := Aside0.mk ho_; have HBa := Aside0.mk hb_; have HGa := Aside0.mk hg_; have B2a := Aside0.mk (grown_none hg_ rfl (by first | exact B2.out | exact blk_at B2.out | exact B2b.out | exact blk_at B2b.out)); have ca0 := (blk_cell B2a.out 0).trans rfl; have ca1 := (blk_cell B2a.out 1).trans rfl; have da0 := fun o => (blk_cell (blk_alloc B2a.out o) 0).trans rfl; have da1 := fun o => (blk_cell (blk_alloc B2a.out o) 1).trans rfl; (try ((first | (have Br := Aside0.mk (grown_none hg_ rfl (blk_new _ _))) | (have Br := Aside0.mk (grown_none hg_ rfl Bq.out))); have r0 := (blk_cell Br.out 0).trans rfl; have r1 := (blk_cell Br.out 1).trans rfl; have fr0 := blk_frozen Br.out 0; have fr1 := blk_frozen Br.out 1)); clear hbx ho_ hb_ hg_ hat_) | (have hbx := HBa.out; refine Kd.R_append_rows_step (kRead w k35) (Rr := k35.K w) (w0 := w) w.heap.size (by rfl) (.const (.slice none 0 0)) (.tmp 22) 23 35 (.agg #[.string ⟨#[]⟩, .slice none 0 0, .slice none 0 0, .slice none 0 0, .slice none 0 0]) 112 rfl HUN.out infoN rfl (by show 0 < 5; decide) (by omega) (.slice none 0 0) ([] : List S35) ns An ns.length cn (fun _ => True) (fun _ => False) (by rfl) (by rfl) (Kd.R_nil _ _ _ _ _) (kRead_row HN.out (by repeat (first | exact hbx | apply below_alloc | apply below_drew1))) (fun _ _ h => h) (fun _ h => h.elim) (fun _ _ => trivial) (by repeat (first | exact hbx | apply below_alloc | apply below_drew1)) ((by repeat (first | exact hbx | apply below_alloc | apply below_drew1)) : Below w.heap.size w _).size (by have h_ := HLN.out; simp only [List.length_nil]; omega) ?_; intro v2 wb ho_ hb_ hg_ hat_; rw [List.nil_append] at ho_; obtain ⟨Ay, ay, rfl⟩ := Kd.R_slice ho_; have HO2 := Aside0.mk ho_; have HBb := Aside0.mk hb_; have HGb := Aside0.mk hg_; have B2b := Aside0.mk (grown_none hg_ rfl (by first | exact B2.out | exact blk_at B2.out | exact B2a.out | exact blk_at B2a.out)); have cb0 := (blk_cell B2b.out 0).trans rfl; have cb1 := (blk_cell B2b.out 1).trans rfl; have db0 := fun o => (blk_cell (blk_alloc B2b.out o) 0).trans rfl; have db1 := fun o => (blk_cell (blk_alloc B2b.out o) 1).trans rfl; (try ((first | (have Br := Aside0.mk (grown_none hg_ rfl (blk_new _ _))) | (have Br := Aside0.mk (grown_none hg_ rfl Bq.out))); have r0 := (blk_cell Br.out 0).trans rfl; have r1 := (blk_cell Br.out 1).trans rfl; have fr0 := blk_frozen Br.out 0; have fr1 := blk_frozen Br.out 1)); clear hbx ho_ hb_ hg_ hat_) | (have hbx := HB.out; refine Kd.R_append_rows_step (kRead w k38) (Rr := k38.K w) (w0 := w) w.heap.size (by rfl) (.const (.slice none 0 0)) (.tmp 19) 22 38 (.agg #[.string ⟨#[]⟩, .slice none 0 0]) 40 rfl HUE.out infoE rfl (by show 0 < 2; decide) (by omega) (.slice none 0 0) ([] : List S38) es Ae es.length ce (fun _ => True) (fun _ => False) (by rfl) (by rfl) (Kd.R_nil _ _ _ _ _) (kRead_row HE.out (by repeat (first | exact hbx | apply below_alloc | apply below_drew1))) (fun _ _ h => h) (fun _ h => h.elim) (fun _ _ => trivial) (by repeat (first | exact hbx | apply below_alloc | apply below_drew1)) ((by repeat (first | exact hbx | apply below_alloc | apply below_drew1)) : Below w.heap.size w _).size (by have h_ := HLE.out; simp only [List.length_nil]; omega) ?_; intro v1 wa ho_ hb_ hg_ hat_; rw [List.nil_append] at ho_; obtain ⟨Ax, ax, rfl⟩ := Kd.R_slice ho_; have HO1 := Aside0.mk ho_; have HBa := Aside0.mk hb_; have HGa := Aside0.mk hg_; have B2a := Aside0.mk (grown_none hg_ rfl (by first | exact B2.out | exact blk_at B2.out | exact B2b.out | exact blk_at B2b.out)); have ca0 := (blk_cell B2a.out 0).trans rfl; have ca1 := (blk_cell B2a.out 1).trans rfl; have da0 := fun o => (blk_cell (blk_alloc B2a.out o) 0).trans rfl; have da1 := fun o => (blk_cell (blk_alloc B2a.out o) 1).trans rfl; (try (have Bq := Aside0.mk (grown_none hg_ rfl (blk_new _ _)))); clear hbx ho_ hb_ hg_ hat_) | (have hbx := HB.out; refine Kd.R_append_rows_step (kRead w k35) (Rr := k35.K w) (w0 := w) w.heap.size (by rfl) (.const (.slice none 0 0)) (.tmp 22) 23 35 (.agg #[.string ⟨#[]⟩, .slice none 0 0, .slice none 0 0, .slice none 0 0, .slice none 0 0]) 112 rfl HUN.out infoN rfl (by show 0 < 5; decide) (by omega) (.slice none 0 0) ([] : List S35) ns An ns.length cn (fun _ => True) (fun _ => False) (by rfl) (by rfl) (Kd.R_nil _ _ _ _ _) (kRead_row HN.out (by repeat (first | exact hbx | apply below_alloc | apply below_drew1))) (fun _ _ h => h) (fun _ h => h.elim) (fun _ _ => trivial) (by repeat (first | exact hbx | apply below_alloc | apply below_drew1)) ((by repeat (first | exact hbx | apply below_alloc | apply below_drew1)) : Below w.heap.size w _).size (by have h_ := HLN.out; simp only [List.length_nil]; omega) ?_; intro v2 wb ho_ hb_ hg_ hat_; rw [List.nil_append] at ho_; obtain ⟨Ay, ay, rfl⟩ := Kd.R_slice ho_; have HO2 := Aside0.mk ho_; have HBb := Aside0.mk hb_; have HGb := Aside0.mk hg_; have B2b := Aside0.mk (grown_none hg_ rfl (by first | exact B2.out | exact blk_at B2.out | exact B2a.out | exact blk_at B2a.out)); have cb0 := (blk_cell B2b.out 0).trans rfl; have cb1 := (blk_cell B2b.out 1).trans rfl; have db0 := fun o => (blk_cell (blk_alloc B2b.out o) 0).trans rfl; have db1 := fun o => (blk_cell (blk_alloc B2b.out o) 1).trans rfl; (try (have Bq := Aside0.mk (grown_none hg_ rfl (blk_new _ _)))); clear hbx ho_ hb_ hg_ hat_))
    all_goals
      go_wp2_with fail
      go_meet
      case rel =>
        have h1 := HO1.out; have h2 := HO2.out
        have h3 : (kRead w k38).R 38 wb w.heap.size (fun _ => True) (.slice Ax es.length ax) es := by first | exact Kd.R_grown h1 HGb.out (fun k _ => by simp [Value.ownBlock]) | exact Kd.R_grown (Kd.R_below h1 (below_alloc (Below.refl _ _) _)) HGb.out (fun k _ => by simp [Value.ownBlock])
        first
        | exact ⟨_, Ax, ax, Ay, ay, rfl, ⟨below_alloc HBb.out _⟩, ⟨HBb.out.size⟩, ⟨blk_new _ _⟩, ⟨Kd.R_below h3 (below_alloc (Below.refl _ _) _)⟩, ⟨Kd.R_below h2 (below_alloc (Below.refl _ _) _)⟩⟩
        | exact ⟨_, Ax, ax, Ay, ay, rfl, ⟨below_set (below_set HBb.out (by first | exact HBa.out.size | exact HB.out.size)) (by first | exact HBa.out.size | exact HB.out.size)⟩, ⟨by first | exact HBa.out.size | exact HB.out.size⟩, ⟨blk_put (blk_put Br.out 0 _ rfl) 1 _ rfl⟩, ⟨Kd.R_set (Kd.R_set h3 Br.out ne_EP 0 _) (blk_put Br.out 0 _ rfl) ne_EP 1 _⟩, ⟨Kd.R_set (Kd.R_set h2 Br.out ne_NP 0 _) (blk_put Br.out 0 _ rfl) ne_NP 1 _⟩⟩
  case rest =>
    clear B2
    obtain ⟨g5, A1, a1, A2, a2, rfl, HB, L5, B5, HRE, HRN⟩ := hcut
    obtain ⟨gn, cur, rfl, LN, BN⟩ := row_block HRN.out (HPOS.out)
    have hC8 := (Kd.R_reads' HRN.out).2.2
    obtain ⟨yad, ycs, hy_, _, yK0, ycc⟩ := Kd.C_get hC8 z35 ((0 : Nat) : Int) (by decide) (by have := HPOS.out; omega)
    obtain rfl := Option.some.inj hy_
    clear hy_ hC8
    have yK : k35.K w (ns.getD 0 z35) ycs := yK0
    clear yK0
    have yK' := yK
    obtain ⟨yA1, yc1, yA2, yc2, yA3, yc3, yA4, yc4, rfl, yl1, yg1, yl2, yg2, yl3, yg3, yl4, yg4⟩ := k35_open yK'
    have yx0 := ycc 0 _ rfl
    have yx1 := ycc 1 _ rfl
    have yx2 := ycc 2 _ rfl
    have yx3 := ycc 3 _ rfl
    have yx4 := ycc 4 _ rfl
    simp only [show (kRead w k35).sz = 5 from rfl, Nat.zero_mul, Nat.zero_add, add_plain, Int.toNat_natCast] at yx0
    simp only [show (kRead w k35).sz = 5 from rfl, Nat.zero_mul, Nat.zero_add, add_plain, Int.toNat_natCast] at yx1
    simp only [show (kRead w k35).sz = 5 from rfl, Nat.zero_mul, Nat.zero_add, add_plain, Int.toNat_natCast] at yx2
    simp only [show (kRead w k35).sz = 5 from rfl, Nat.zero_mul, Nat.zero_add, add_plain, Int.toNat_natCast] at yx3
    simp only [show (kRead w k35).sz = 5 from rfl, Nat.zero_mul, Nat.zero_add, add_plain, Int.toNat_natCast] at yx4
    clear ycc
    generalize Yy0 : ns.getD 0 z35 = y at yx0 yx1 yx2 yx3 yx4 yK yl1 yg1 yl2 yg2 yl3 yg3 yl4 yg4
    have Yy := Aside0.mk Yy0; clear Yy0
    have YK := Aside0.mk yK; clear yK
    have yL1 := Aside0.mk yl1; have yG1 := Aside0.mk yg1; clear yl1 yg1
    have yL2 := Aside0.mk yl2; have yG2 := Aside0.mk yg2; clear yl2 yg2
    have yL3 := Aside0.mk yl3; have yG3 := Aside0.mk yg3; clear yl3 yg3
    have yL4 := Aside0.mk yl4; have yG4 := Aside0.mk yg4; clear yl4 yg4
    have yq0 := Aside0.mk ((blk_cell BN.out 0).symm.trans yx0)
    have yq1 := Aside0.mk ((blk_cell BN.out 1).symm.trans yx1)
    have yq2 := Aside0.mk ((blk_cell BN.out 2).symm.trans yx2)
    have yq3 := Aside0.mk ((blk_cell BN.out 3).symm.trans yx3)
    have yq4 := Aside0.mk ((blk_cell BN.out 4).symm.trans yx4)
    have c5_0 := (blk_cell B5.out 0).trans rfl
    have c5_1 := (blk_cell B5.out 1).trans rfl
    have hnz : (0 : Int) < (ns.length : Int) := by have := HPOS.out; omega
    have hnc : (ns.length : Int) ≤ (a2 : Int) := by have := (Kd.R_reads' HRN.out).2.1; omega
    go_upto_block 0 with ((with_reducible refine gate_store (t := 35) (p := 6) rfl ?_); refine store_whole rfl rfl 35 _ _ rfl wc.heap.size _ 35 rfl (blk_new _ _) _ rfl rfl rfl (by simp [Value.oneCell']) ?_; intro w2 hb2 hg2; replace B5 := Aside0.mk (blk_as B5.out hg2); replace BN := Aside0.mk (blk_as BN.out hg2); replace HB := Aside0.mk (below_as HB.out hg2); obtain ⟨g6, hq_⟩ : ∃ g_, g_ = wc.heap.size := ⟨_, rfl⟩; rw [← hq_] at hb2; rw [← hq_]; have B6 := Aside0.mk hb2; have HRE_ := Aside0.mk (Kd.R_below HRE.out (below_as (Below.refl _ _) hg2)); clear HRE; have HRN_ := Aside0.mk (Kd.R_below HRN.out (below_as (Below.refl _ _) hg2)); clear HRN; have HRE := HRE_; have HRN := HRN_; clear HRE_ HRN_; clear hb2 hg2 hq_)
    clear c5_0 c5_1
    clear yx0 yx1 yx2 yx3 yx4
    have hm := three_m n
    generalize wrap64 ((IntKind.u64.wrap n).tmod 3) = m at hm ⊢
    go_cut [5] from 33 to 83 (fun s5 wx => ∃ g5 A1 a1 A2 a2 es1 ns1, s5 = .pointer (some ⟨g5, 0, none⟩) ∧ Aside0 (Below w.heap.size w wx) ∧ Aside0 (wx.heap[g5]? = some (.cells #[.slice A1 es1.length a1, .slice A2 ns1.length a2] 25 (0, 0))) ∧ Aside0 (k38.C wx A1 es1.length es1) ∧ Aside0 (k35.C wx A2 ns1.length ns1) ∧ Aside0 ((checkR true es1 ns1).1 ≠ 0) ∧ Aside0 (∀ n ∈ ns1, qNd n) ∧ Aside0 (∀ k, k < ns1.length → (ndEx (ns1.getD k z35)).length ≤ 4194304))
    case first =>
      have c5_0 := (blk_cell B5.out 0).trans rfl
      have c5_1 := (blk_cell B5.out 1).trans rfl
      have c6_0 := (blk_cell B6.out 0).trans rfl
      have c6_1 := (blk_cell B6.out 1).trans rfl
      have c6_2 := (blk_cell B6.out 2).trans rfl
      have c6_3 := (blk_cell B6.out 3).trans rfl
      have c6_4 := (blk_cell B6.out 4).trans rfl
      rcases hm with rfl | rfl | rfl
      · go_upto_region 11 with fail
        clear hnz hnc
        go_wp2_with (at_builtin; refine Kd.R_append_rows (kRead w k35) (Rr := k35.K w) (w0 := w) w.heap.size rfl _ _ 23 35 (.agg #[.string ⟨#[]⟩, .slice none 0 0, .slice none 0 0, .slice none 0 0, .slice none 0 0]) 112 rfl HUN.out infoN rfl (by show 0 < 5; decide) (by omega) (.slice (some ⟨gn, 0, none⟩) ns.length a2) ns [y] (some ⟨_, 0, none⟩) 1 1 (fun _ => True) (fun _ => False) rfl rfl ?aO ?aR (fun _ _ h => h) (fun _ h => h.elim) ?aF ?aB ?aS ?aL ?_; (case aO => exact Kd.R_below HRN.out (by repeat (first | exact Below.refl _ _ | apply below_alloc | apply below_drew1))); (case aR => exact lit1 (d := kRead w k35) (blk_new _ _) YK.out); (case aF => exact (fun _ _ => trivial)); (case aB => exact (by repeat (first | exact HB.out | apply below_alloc | apply below_drew1))); (case aS => exact ((by repeat (first | exact HB.out | apply below_alloc | apply below_drew1)) : Below w.heap.size w _).size); (case aL => have h_ := HLN.out; omega); intro v1 wa ho_ hb_ hg_ hat_; obtain ⟨Ax, ax, hv_⟩ := Kd.R_slice ho_; rw [List.length_append, List.length_singleton] at hv_; subst hv_; have HO1 := Aside0.mk ho_; have HBa := Aside0.mk hb_; have B5a := Aside0.mk (blk_apart (Kd.R_below HRN.out (by repeat (first | exact Below.refl _ _ | apply below_alloc | apply below_drew1))) hg_ (by first | exact B5.out | exact blk_at B5.out) (by decide)); have HREa := Aside0.mk (R_apart2 (Kd.R_below HRE.out (by repeat (first | exact Below.refl _ _ | apply below_alloc | apply below_drew1))) (by first | exact BN.out | exact blk_at BN.out) ne_EN hg_); have ca0 := (blk_cell B5a.out 0).trans rfl; have ca1 := (blk_cell B5a.out 1).trans rfl; have fa1 := blk_frozen B5a.out 1; clear ho_ hb_ hg_ hat_)
        go_meet
        case rel =>
          have hst := below_set (g := g5) (j := 1) (v := .slice Ax (ns.length + 1) ax) HBa.out L5.out
          have hE := kRead_C (Kd.R_reads' (Kd.R_set HREa.out B5a.out ne_EP 1 (.slice Ax (ns.length + 1) ax))).2.2 hst
          have hN := kRead_C (Kd.R_reads' (Kd.R_set HO1.out B5a.out ne_NP 1 (.slice Ax (ns.length + 1) ax))).2.2 hst
          have hmem : y ∈ ns := by rw [← Yy.out]; exact getD_mem _ _ HPOS.out
          refine ⟨g5, A1, a1, Ax, ax, es, ns ++ [y], rfl, ⟨hst⟩, ⟨?_⟩, ⟨hE⟩, ⟨hN⟩, ⟨twice_node hmem⟩, ⟨fun n hn => ?_⟩, ⟨?_⟩⟩
          · rw [List.length_append, List.length_singleton]; exact blk_put B5a.out 1 _ rfl
          · rcases List.mem_append.1 hn with h | h
            · exact HQ.out n h
            · rw [List.mem_singleton.1 h]; exact HQ.out y hmem
          · exact ndEx_all (B := 1048576) (by omega) (fun n hn => by rcases List.mem_append.1 hn with h | h; exact nd_at (B := 1048576) (by have := HBK.out; omega) h; rw [List.mem_singleton.1 h]; exact nd_at (B := 1048576) (by have := HBK.out; omega) hmem)
      · clear hnz hnc
        by_cases e0 : es.length = 0
        · have t0 : ((es.length : Int) == 0) = true := by rw [e0]; rfl
          clear e0
          go_wp2_with fail
          go_ret
          exact ⟨rfl, HB.out⟩
        have t0 : ((es.length : Int) == 0) = false := beq_eq_false_iff_ne.2 (by omega)
        have hEP := Aside0.mk (show 0 < es.length by omega)
        have hez : (0 : Int) < (es.length : Int) := by omega
        have hec : (es.length : Int) ≤ (a1 : Int) := by have := (Kd.R_reads' HRE.out).2.1; omega
        clear e0
        obtain ⟨ge, cure, rfl, LE, BE⟩ := row_block HRE.out hEP.out
        have hC9 := (Kd.R_reads' HRE.out).2.2
        obtain ⟨zad, zcs, hy_, _, zK0, zcc⟩ := Kd.C_get hC9 z38 ((0 : Nat) : Int) (by decide) (by have := hEP.out; omega)
        obtain rfl := Option.some.inj hy_
        clear hy_ hC9
        have zK : k38.K w (es.getD 0 z38) zcs := zK0
        clear zK0
        have zK' := zK
        obtain ⟨zA1, zc1, rfl, zl1, zg1⟩ := k38_open zK'
        have zx0 := zcc 0 _ rfl
        have zx1 := zcc 1 _ rfl
        simp only [show (kRead w k38).sz = 2 from rfl, Nat.zero_mul, Nat.zero_add, add_plain, Int.toNat_natCast] at zx0
        simp only [show (kRead w k38).sz = 2 from rfl, Nat.zero_mul, Nat.zero_add, add_plain, Int.toNat_natCast] at zx1
        clear zcc
        generalize Yz0 : es.getD 0 z38 = z at zK zx0 zx1 zl1 zg1
        have Yz := Aside0.mk Yz0; clear Yz0
        have ZK := Aside0.mk zK; clear zK
        have ZX0 := Aside0.mk zx0; have ZX1 := Aside0.mk zx1
        clear zl1 zg1
        go_upto_region 15 with fail
        have hlb := HB.out
        have hen := hEP.out
        have d5_0 := fun o => (blk_cell (blk_alloc B5.out o) 0).trans rfl
        have d5_1 := fun o => (blk_cell (blk_alloc B5.out o) 1).trans rfl
        go_region_law (refine Kd.R_append_rows_step (kRead w k38) (Rr := k38.K w) (w0 := w) w.heap.size (by rfl) (.tmp 48) (.tmp 53) 22 38 (.agg #[.string ⟨#[]⟩, .slice none 0 0]) 40 rfl HUE.out infoE rfl (by show 0 < 2; decide) (by omega) (.slice (some ⟨ge, 0, none⟩) es.length a1) es [z] (some ⟨w2.heap.size, 0, none⟩) 1 1 (fun _ => True) (fun _ => False) (by rfl) (by rfl) (Kd.R_below HRE.out (by repeat (first | exact Below.refl _ _ | apply below_alloc | apply below_drew1))) (lit1 (d := kRead w k38) (blk_new _ _) ZK.out) (fun _ _ h => h) (fun _ h => h.elim) (fun _ _ => trivial) (by repeat (first | exact hlb | apply below_alloc | apply below_drew1)) ((by repeat (first | exact hlb | apply below_alloc | apply below_drew1)) : Below w.heap.size w _).size (by have h_ := HLE.out; omega) ?_; intro v1 wa ho_ hb_ hg_ hat_; obtain ⟨Ax, ax, hv_⟩ := Kd.R_slice ho_; rw [List.length_append, List.length_singleton] at hv_; subst hv_; have HO1 := Aside0.mk ho_; have HBa := Aside0.mk hb_; have B5a := Aside0.mk (blk_apart (Kd.R_below HRE.out (by repeat (first | exact Below.refl _ _ | apply below_alloc | apply below_drew1))) hg_ (by first | exact B5.out | exact blk_at B5.out) (by decide)); have HRNa := Aside0.mk (R_apart2 (Kd.R_below HRN.out (by repeat (first | exact Below.refl _ _ | apply below_alloc | apply below_drew1))) (by first | exact BE.out | exact blk_at BE.out) ne_NE hg_); have ca0 := (blk_cell B5a.out 0).trans rfl; have ca1 := (blk_cell B5a.out 1).trans rfl; have fa0 := blk_frozen B5a.out 0; clear ho_ hb_ hg_ hat_)
        all_goals
          go_wp2_with fail
          go_meet
          case rel =>
            have hst := below_set (g := g5) (j := 0) (v := .slice Ax (es.length + 1) ax) HBa.out L5.out
            have hE := kRead_C (Kd.R_reads' (Kd.R_set HO1.out B5a.out ne_EP 0 (.slice Ax (es.length + 1) ax))).2.2 hst
            have hN := kRead_C (Kd.R_reads' (Kd.R_set HRNa.out B5a.out ne_NP 0 (.slice Ax (es.length + 1) ax))).2.2 hst
            have hmem : z ∈ es := by rw [← Yz.out]; exact getD_mem _ _ hEP.out
            refine ⟨g5, Ax, ax, some ⟨gn, 0, none⟩, a2, es ++ [z], ns, rfl, ⟨hst⟩, ⟨?_⟩, ⟨hE⟩, ⟨hN⟩, ⟨twice_enum hmem⟩, HQ, ⟨?_⟩⟩
            · rw [List.length_append, List.length_singleton]; exact blk_put B5a.out 0 _ rfl
            · exact ndEx_all (B := 1048576) (by omega) (fun n hn => nd_at (B := 1048576) (by have := HBK.out; omega) hn)
      · clear hnz hnc
        by_cases e0 : y.f4.length = 0
        · have t0 : ((y.f4.length : Int) == 0) = true := by rw [e0]; rfl
          clear e0
          go_wp2_with fail
          go_ret
          exact ⟨rfl, HB.out⟩
        have t0 : ((y.f4.length : Int) == 0) = false := beq_eq_false_iff_ne.2 (by omega)
        have hIP := Aside0.mk (show 0 < y.f4.length by omega)
        have hiz : (0 : Int) < (y.f4.length : Int) := by omega
        have hic : (y.f4.length : Int) ≤ (yc4 : Int) := by have := yL4.out; omega
        clear e0
        obtain ⟨xad, xcs, hxa_, _, xK, xcc⟩ := Kd.C_get yG4.out z47 ((0 : Nat) : Int) (by omega) (by omega)
        subst hxa_
        have xK' := xK
        obtain ⟨xA0, xc0, xA4, xc4, xA5, xc5, xA6, xc6, rfl, xl0, xg0, xl4, xg4, xl5, xg5, xl6, xg6⟩ := k47_open xK'
        have xx0 := (HB.out.cell (World.block_lt_of_cell? w _ (xcc 0 _ rfl))).trans (xcc 0 _ rfl)
        have xx1 := (HB.out.cell (World.block_lt_of_cell? w _ (xcc 1 _ rfl))).trans (xcc 1 _ rfl)
        have xx2 := (HB.out.cell (World.block_lt_of_cell? w _ (xcc 2 _ rfl))).trans (xcc 2 _ rfl)
        have xx3 := (HB.out.cell (World.block_lt_of_cell? w _ (xcc 3 _ rfl))).trans (xcc 3 _ rfl)
        have xx4 := (HB.out.cell (World.block_lt_of_cell? w _ (xcc 4 _ rfl))).trans (xcc 4 _ rfl)
        have xx5 := (HB.out.cell (World.block_lt_of_cell? w _ (xcc 5 _ rfl))).trans (xcc 5 _ rfl)
        have xx6 := (HB.out.cell (World.block_lt_of_cell? w _ (xcc 6 _ rfl))).trans (xcc 6 _ rfl)
        rw [show (k47).sz = 7 from rfl, Nat.add_zero, Int.toNat_natCast] at xx0
        rw [show (k47).sz = 7 from rfl, Int.toNat_natCast, add_field _ _ 1 (by omega)] at xx1
        rw [show (k47).sz = 7 from rfl, Int.toNat_natCast, add_field _ _ 2 (by omega)] at xx2
        rw [show (k47).sz = 7 from rfl, Int.toNat_natCast, add_field _ _ 3 (by omega)] at xx3
        rw [show (k47).sz = 7 from rfl, Int.toNat_natCast, add_field _ _ 4 (by omega)] at xx4
        rw [show (k47).sz = 7 from rfl, Int.toNat_natCast, add_field _ _ 5 (by omega)] at xx5
        rw [show (k47).sz = 7 from rfl, Int.toNat_natCast, add_field _ _ 6 (by omega)] at xx6
        have xw0 := xcc 0 _ rfl
        have xw1 := xcc 1 _ rfl
        have xw2 := xcc 2 _ rfl
        have xw3 := xcc 3 _ rfl
        have xw4 := xcc 4 _ rfl
        have xw5 := xcc 5 _ rfl
        have xw6 := xcc 6 _ rfl
        rw [show (k47).sz = 7 from rfl, Nat.add_zero, Int.toNat_natCast] at xw0
        rw [show (k47).sz = 7 from rfl, Int.toNat_natCast, add_field _ _ 1 (by omega)] at xw1
        rw [show (k47).sz = 7 from rfl, Int.toNat_natCast, add_field _ _ 2 (by omega)] at xw2
        rw [show (k47).sz = 7 from rfl, Int.toNat_natCast, add_field _ _ 3 (by omega)] at xw3
        rw [show (k47).sz = 7 from rfl, Int.toNat_natCast, add_field _ _ 4 (by omega)] at xw4
        rw [show (k47).sz = 7 from rfl, Int.toNat_natCast, add_field _ _ 5 (by omega)] at xw5
        rw [show (k47).sz = 7 from rfl, Int.toNat_natCast, add_field _ _ 6 (by omega)] at xw6
        clear xcc
        try simp only [Int.toNat_natCast] at xx0 xx1 xx2 xx3 xx4 xx5 xx6 xK xl0 xg0 xl4 xg4 xl5 xg5 xl6 xg6
        generalize Yx0 : y.f4.getD 0 z47 = x at xx0 xx1 xx2 xx3 xx4 xx5 xx6 xK xl0 xg0 xl4 xg4 xl5 xg5 xl6 xg6
        have Yx := Aside0.mk Yx0; clear Yx0
        try simp only [Int.toNat_natCast] at xw0 xw1 xw2 xw3 xw4 xw5 xw6
        rw [Yx.out] at xw0 xw1 xw2 xw3 xw4 xw5 xw6
        have xL0 := Aside0.mk xl0; have xG0 := Aside0.mk xg0; clear xl0 xg0
        have xL4 := Aside0.mk xl4; have xG4 := Aside0.mk xg4; clear xl4 xg4
        have xL5 := Aside0.mk xl5; have xG5 := Aside0.mk xg5; clear xl5 xg5
        have xL6 := Aside0.mk xl6; have xG6 := Aside0.mk xg6; clear xl6 xg6
        simp only [Nat.zero_mul, add_zero'] at xx0 xw0 xx1 xw1 xx2 xw2 xx3 xw3 xx4 xw4 xx5 xw5 xx6 xw6
        have XK := Aside0.mk xK; clear xK
        have hxm : x ∈ y.f4 := by rw [← Yx.out]; exact getD_mem _ _ hIP.out
        have hym : y ∈ ns := by rw [← Yy.out]; exact getD_mem _ _ HPOS.out
        have hvy : vNd y ≤ 1048576 := nd_at (B := 1048576) (by have := HBK.out; omega) hym
        have hvx := it_at hxm
        have hvi := items_len y
        have HXM := Aside0.mk hxm; have HYM := Aside0.mk hym; have HVY := Aside0.mk hvy; have HVX := Aside0.mk hvx; have HVI := Aside0.mk hvi
        have HDL := Aside0.mk (Nat.le_trans (definesL_le x) hvx)
        clear hxm hym hvy hvx hvi
        have hde := fun (W : World) (hB : Below w.heap.size w W) => rdefines_calls x W _ (Kd.K_below _ hB XK.out) (by have h1_ := HDL.out; have h2_ := HVY.out; omega)
        have HTW := Aside0.mk (fun (h : 0 < (definesL x).length) => twice_item (made := true) (es := es) (n := y) (r := ns.drop 1) HXM.out h)
        generalize definesL x = dl at hde HTW HDL
        have HX_ := Aside0.mk (And.intro xw0 (And.intro xw1 (And.intro xw2 (And.intro xw3 (And.intro xw4 (And.intro xw5 xw6))))))
        clear xw0 xw1 xw2 xw3 xw4 xw5 xw6
        go_wp2_with fail
        refine (hde _ HB.out).mono ?_
        rintro e w5 ⟨Ad, cd, rfl, hcd, hC, hb⟩
        replace B5 := Aside0.mk (below_blk B5.out hb)
        replace B6 := Aside0.mk (below_blk B6.out hb)
        replace BN := Aside0.mk (below_blk BN.out hb)
        replace HRE := Aside0.mk (Kd.R_below HRE.out hb)
        replace HRN := Aside0.mk (Kd.R_below HRN.out hb)
        replace HB := Aside0.mk (below_step HB.out hb)
        clear hde hC hb hcd xx0 xx1 xx2 xx3 xx4 xx5 xx6 c5_0 c5_1 c6_0 c6_1 c6_2 c6_3 c6_4
        by_cases e1 : dl.length = 0
        · have t1 : ((dl.length : Int) == 0) = true := by rw [e1]; rfl
          clear e1
          go_wp2_with fail
          go_ret
          exact ⟨rfl, HB.out⟩
        have t1 : ((dl.length : Int) == 0) = false := beq_eq_false_iff_ne.2 (by omega)
        have hTW2 := HTW.out (by omega)
        have HTW2 := Aside0.mk hTW2; clear hTW2 HTW e1
        go_upto_region 19 with fail
        have c5_0 := (blk_cell B5.out 0).trans rfl
        have c5_1 := (blk_cell B5.out 1).trans rfl
        have c6_0 := (blk_cell B6.out 0).trans rfl
        have c6_1 := (blk_cell B6.out 1).trans rfl
        have c6_2 := (blk_cell B6.out 2).trans rfl
        have c6_3 := (blk_cell B6.out 3).trans rfl
        have c6_4 := (blk_cell B6.out 4).trans rfl
        have xx0 := (HB.out.cell (World.block_lt_of_cell? w _ HX_.out.1)).trans HX_.out.1
        have xx1 := (HB.out.cell (World.block_lt_of_cell? w _ HX_.out.2.1)).trans HX_.out.2.1
        have xx2 := (HB.out.cell (World.block_lt_of_cell? w _ HX_.out.2.2.1)).trans HX_.out.2.2.1
        have xx3 := (HB.out.cell (World.block_lt_of_cell? w _ HX_.out.2.2.2.1)).trans HX_.out.2.2.2.1
        have xx4 := (HB.out.cell (World.block_lt_of_cell? w _ HX_.out.2.2.2.2.1)).trans HX_.out.2.2.2.2.1
        have xx5 := (HB.out.cell (World.block_lt_of_cell? w _ HX_.out.2.2.2.2.2.1)).trans HX_.out.2.2.2.2.2.1
        have xx6 := (HB.out.cell (World.block_lt_of_cell? w _ HX_.out.2.2.2.2.2.2)).trans HX_.out.2.2.2.2.2.2
        have yy0 := (blk_cell BN.out 0).trans yq0.out
        have yy1 := (blk_cell BN.out 1).trans yq1.out
        have yy2 := (blk_cell BN.out 2).trans yq2.out
        have yy3 := (blk_cell BN.out 3).trans yq3.out
        have yy4 := (blk_cell BN.out 4).trans yq4.out
        have hnz : (0 : Int) < (ns.length : Int) := by have := HPOS.out; omega
        have hnc : (ns.length : Int) ≤ (a2 : Int) := by have := (Kd.R_reads' HRN.out).2.1; omega
        have hnn := HPOS.out
        have hin := hIP.out
        have d5_0 := fun o => (blk_cell (blk_alloc B5.out o) 0).trans rfl
        have d5_1 := fun o => (blk_cell (blk_alloc B5.out o) 1).trans rfl
        have d6_0 := fun o => (blk_cell (blk_alloc B6.out o) 0).trans rfl
        have d6_1 := fun o => (blk_cell (blk_alloc B6.out o) 1).trans rfl
        have d6_2 := fun o => (blk_cell (blk_alloc B6.out o) 2).trans rfl
        have d6_3 := fun o => (blk_cell (blk_alloc B6.out o) 3).trans rfl
        have d6_4 := fun o => (blk_cell (blk_alloc B6.out o) 4).trans rfl
        go_region_law (first | (refine Kd.R_append_rows_step (kRead w k47) (Rr := k47.K w) (w0 := w) w.heap.size (by rfl) (.tmp 75) (.tmp 80) 33 47 (.agg #[.slice none 0 0, .int .i64 0, .string ⟨#[]⟩, .int .i64 0, .slice none 0 0, .slice none 0 0, .slice none 0 0]) 128 rfl HUI.out infoI rfl (by show 0 < 7; decide) (by omega) (.slice Ax y.f4.length ax) y.f4 [x] (some ⟨wa.heap.size, 0, none⟩) 1 1 (fun _ => True) (fun _ => False) (by rfl) (by rfl) (Kd.R_below HO1.out (by repeat (first | exact Below.refl _ _ | apply below_alloc | apply below_drew1))) (lit1 (d := kRead w k47) (blk_new _ _) XK.out) (fun _ _ h => h) (fun _ h => h.elim) (fun _ _ => trivial) (by repeat (first | exact HBa.out | apply below_alloc | apply below_drew1)) ((by repeat (first | exact HBa.out | apply below_alloc | apply below_drew1)) : Below w.heap.size w _).size (by have h1_ := HVI.out; have h2_ := HVY.out; omega) ?_; intro v2 wb ho_ hb_ hg_ hat_; obtain ⟨Az, az, hv_⟩ := Kd.R_slice ho_; rw [List.length_append, List.length_singleton] at hv_; subst hv_; have HO2 := Aside0.mk ho_; have HBb := Aside0.mk hb_; have B5b := Aside0.mk (blk_apart (Kd.R_below HO1.out (by repeat (first | exact Below.refl _ _ | apply below_alloc | apply below_drew1))) hg_ (by first | exact B5a.out | exact blk_at B5a.out) (by decide)); have BNb := Aside0.mk (blk_apart (Kd.R_below HO1.out (by repeat (first | exact Below.refl _ _ | apply below_alloc | apply below_drew1))) hg_ (by first | exact BNa.out | exact blk_at BNa.out) (by decide)); have HREb := Aside0.mk (R_apart3 (Kd.R_below HREa.out (by repeat (first | exact Below.refl _ _ | apply below_alloc | apply below_drew1))) (Kd.R_below HO1.out (by repeat (first | exact Below.refl _ _ | apply below_alloc | apply below_drew1))) ne_EI hg_); have HRNb := Aside0.mk (R_apart3 (Kd.R_below HRNa.out (by repeat (first | exact Below.refl _ _ | apply below_alloc | apply below_drew1))) (Kd.R_below HO1.out (by repeat (first | exact Below.refl _ _ | apply below_alloc | apply below_drew1))) ne_NI hg_); have n5_0 := (blk_cell B5b.out 0).trans rfl; have n5_1 := (blk_cell B5b.out 1).trans rfl; have cn4 := (blk_cell BNb.out 4).trans yq4.out; have fn4 := blk_frozen BNb.out 4; clear ho_ hb_ hg_ hat_) | (refine Kd.R_append_rows_step (kRead w k47) (Rr := k47.K w) (w0 := w) w.heap.size (by rfl) (.tmp 75) (.tmp 80) 33 47 (.agg #[.slice none 0 0, .int .i64 0, .string ⟨#[]⟩, .int .i64 0, .slice none 0 0, .slice none 0 0, .slice none 0 0]) 128 rfl HUI.out infoI rfl (by show 0 < 7; decide) (by omega) (.slice Ax y.f4.length ax) y.f4 [x] (some ⟨w5.heap.size, 0, none⟩) 1 1 (fun _ => True) (fun _ => False) (by rfl) (by rfl) (Kd.R_below HO1.out (by repeat (first | exact Below.refl _ _ | apply below_alloc | apply below_drew1))) (lit1 (d := kRead w k47) Bb.out XK.out) (fun _ _ h => h) (fun _ h => h.elim) (fun _ _ => trivial) (by repeat (first | exact HBa.out | apply below_alloc | apply below_drew1)) ((by repeat (first | exact HBa.out | apply below_alloc | apply below_drew1)) : Below w.heap.size w _).size (by have h1_ := HVI.out; have h2_ := HVY.out; omega) ?_; intro v2 wb ho_ hb_ hg_ hat_; obtain ⟨Az, az, hv_⟩ := Kd.R_slice ho_; rw [List.length_append, List.length_singleton] at hv_; subst hv_; have HO2 := Aside0.mk ho_; have HBb := Aside0.mk hb_; have B5b := Aside0.mk (blk_apart (Kd.R_below HO1.out (by repeat (first | exact Below.refl _ _ | apply below_alloc | apply below_drew1))) hg_ (by first | exact B5a.out | exact blk_at B5a.out) (by decide)); have BNb := Aside0.mk (blk_apart (Kd.R_below HO1.out (by repeat (first | exact Below.refl _ _ | apply below_alloc | apply below_drew1))) hg_ (by first | exact BNa.out | exact blk_at BNa.out) (by decide)); have HREb := Aside0.mk (R_apart3 (Kd.R_below HREa.out (by repeat (first | exact Below.refl _ _ | apply below_alloc | apply below_drew1))) (Kd.R_below HO1.out (by repeat (first | exact Below.refl _ _ | apply below_alloc | apply below_drew1))) ne_EI hg_); have HRNb := Aside0.mk (R_apart3 (Kd.R_below HRNa.out (by repeat (first | exact Below.refl _ _ | apply below_alloc | apply below_drew1))) (Kd.R_below HO1.out (by repeat (first | exact Below.refl _ _ | apply below_alloc | apply below_drew1))) ne_NI hg_); have n5_0 := (blk_cell B5b.out 0).trans rfl; have n5_1 := (blk_cell B5b.out 1).trans rfl; have cn4 := (blk_cell BNb.out 4).trans yq4.out; have fn4 := blk_frozen BNb.out 4; clear ho_ hb_ hg_ hat_) | (refine Kd.R_append_rows_step (kRead w k47) (Rr := k47.K w) (w0 := w) w.heap.size (by rfl) (.const (.slice none 0 0)) (.tmp 74) 33 47 (.agg #[.slice none 0 0, .int .i64 0, .string ⟨#[]⟩, .int .i64 0, .slice none 0 0, .slice none 0 0, .slice none 0 0]) 128 rfl HUI.out infoI rfl (by show 0 < 7; decide) (by omega) (.slice none 0 0) ([] : List S47) y.f4 (some xad) y.f4.length yc4 (fun _ => True) (fun _ => False) (by rfl) (by rfl) (Kd.R_nil _ _ _ _ _) (kRead_row yG4.out (by repeat (first | exact HB.out | apply below_alloc | apply below_drew1))) (fun _ _ h => h) (fun _ h => h.elim) (fun _ _ => trivial) (by repeat (first | exact HB.out | apply below_alloc | apply below_drew1)) ((by repeat (first | exact HB.out | apply below_alloc | apply below_drew1)) : Below w.heap.size w _).size (by have h1_ := HVI.out; have h2_ := HVY.out; simp only [List.length_nil]; omega) ?_; intro v1 wa ho_ hb_ hg_ hat_; rw [List.nil_append] at ho_; obtain ⟨Ax, ax, rfl⟩ := Kd.R_slice ho_; have HO1 := Aside0.mk ho_; have HBa := Aside0.mk hb_; have B5a := Aside0.mk (grown_none hg_ rfl (by first | exact B5.out | exact blk_at B5.out)); have B6a := Aside0.mk (grown_none hg_ rfl (by first | exact B6.out | exact blk_at B6.out)); have BNa := Aside0.mk (grown_none hg_ rfl (by first | exact BN.out | exact blk_at BN.out)); have HREa := Aside0.mk (Kd.R_grown (Kd.R_below HRE.out (by repeat (first | exact Below.refl _ _ | apply below_alloc | apply below_drew1))) hg_ (fun k _ => by simp [Value.ownBlock])); have HRNa := Aside0.mk (Kd.R_grown (Kd.R_below HRN.out (by repeat (first | exact Below.refl _ _ | apply below_alloc | apply below_drew1))) hg_ (fun k _ => by simp [Value.ownBlock])); (try (have Bb := Aside0.mk (grown_none hg_ rfl (blk_new _ _)))); clear ho_ hb_ hg_ hat_; have e5_0 := fun o => (blk_cell (blk_alloc B5a.out o) 0).trans rfl; have e5_1 := fun o => (blk_cell (blk_alloc B5a.out o) 1).trans rfl; have xa0 := (HBa.out.cell (World.block_lt_of_cell? w _ HX_.out.1)).trans HX_.out.1; have xa1 := (HBa.out.cell (World.block_lt_of_cell? w _ HX_.out.2.1)).trans HX_.out.2.1; have xa2 := (HBa.out.cell (World.block_lt_of_cell? w _ HX_.out.2.2.1)).trans HX_.out.2.2.1; have xa3 := (HBa.out.cell (World.block_lt_of_cell? w _ HX_.out.2.2.2.1)).trans HX_.out.2.2.2.1; have xa4 := (HBa.out.cell (World.block_lt_of_cell? w _ HX_.out.2.2.2.2.1)).trans HX_.out.2.2.2.2.1; have xa5 := (HBa.out.cell (World.block_lt_of_cell? w _ HX_.out.2.2.2.2.2.1)).trans HX_.out.2.2.2.2.2.1; have xa6 := (HBa.out.cell (World.block_lt_of_cell? w _ HX_.out.2.2.2.2.2.2)).trans HX_.out.2.2.2.2.2.2; have m5_0 := (blk_cell B5a.out 0).trans rfl; have m5_1 := (blk_cell B5a.out 1).trans rfl; have m6_0 := (blk_cell B6a.out 0).trans rfl; have m6_1 := (blk_cell B6a.out 1).trans rfl; have m6_2 := (blk_cell B6a.out 2).trans rfl; have m6_3 := (blk_cell B6a.out 3).trans rfl; have m6_4 := (blk_cell B6a.out 4).trans rfl))
        all_goals
          go_wp2_with fail
          go_meet
          case rel =>
            have hst := below_set (g := gn) (j := 4) (v := .slice Az (y.f4.length + 1) az) HBb.out LN.out
            have hE := kRead_C (Kd.R_reads' (Kd.R_set HREb.out BNb.out ne_EN 4 (.slice Az (y.f4.length + 1) az))).2.2 hst
            have hI := kRead_C (Kd.R_reads' (Kd.R_set HO2.out BNb.out ne_IN 4 (.slice Az (y.f4.length + 1) az))).2.2 hst
            have hN := node_poke (Kd.R_reads' HRNb.out).2.2 HPOS.out hst BNb.out Yy.out yq0.out yq1.out yq2.out yq3.out yL1.out yG1.out yL2.out yG2.out yL3.out yG3.out hI (by have := (Kd.R_reads' HO2.out).2.1; simpa using this) yq4.out
            refine ⟨g5, A1, a1, some ⟨gn, 0, none⟩, a2, es, moreItem y x :: ns.drop 1, rfl, ⟨hst⟩, ⟨?_⟩, ⟨hE⟩, ⟨?_⟩, HTW2, ⟨fun n hn => ?_⟩, ⟨?_⟩⟩
            · rw [List.length_cons, List.length_drop, Nat.sub_add_cancel HPOS.out]; exact blk_far B5b.out (by intro e_; have h_ := B5b.out; rw [e_, BNb.out] at h_; cases h_) _
            · rw [List.length_cons, List.length_drop, Nat.sub_add_cancel HPOS.out]; exact hN
            · rcases List.mem_cons.1 hn with h | h
              · rw [h]; exact qNd_more (HQ.out y HYM.out) HXM.out
              · exact HQ.out n (List.mem_of_mem_drop h)
            · refine ndEx_all (B := 2097152) (by omega) (fun n hn => ?_)
              rcases List.mem_cons.1 hn with h | h
              · rw [h, vNd_more]; have h1_ := HVY.out; have h2_ := HVX.out; omega
              · exact Nat.le_trans (nd_at (B := 1048576) (by have := HBK.out; omega) (List.mem_of_mem_drop h)) (by omega)
    case rest =>
      clear HB B5 B6 BN HRE HRN hnz hnc hm yq0 yq1 yq2 yq3 yq4
      obtain ⟨g7, A3, a3, A4, a4, es1, ns1, rfl, HB, B7, HE1, HN1, HNZ, HQ1, HX1⟩ := hcut
      have hck2 := fun (W : World) (hB : Below wc.heap.size wc W) => check_calls true es1 ns1 A3 A4 a3 a4 W (Kd.C_below HE1.out hB) (Kd.C_below HN1.out hB)
      have hrr := fun (W : World) (hB : Below wc.heap.size wc W) => rright_calls true es1 ns1 A3 A4 a3 a4 W (Kd.C_below HE1.out hB) (Kd.C_below HN1.out hB) HX1.out
      have HFL := Aside0.mk (fault_law HQ1.out HNZ.out)
      generalize checkR true es1 ns1 = C2 at hck2 HNZ HFL
      generalize rrightP true es1 ns1 = rr at hrr HFL
      obtain ⟨d1, d2, d3⟩ := C2
      simp only at hck2 HNZ HFL
      have HK := Aside0.mk (Below.refl wc.heap.size wc)
      have c7_0 := (blk_cell B7.out 0).trans rfl
      have c7_1 := (blk_cell B7.out 1).trans rfl
      go_wp2_with fail
      refine (hck2 _ HK.out).mono ?_
      rintro e w7 ⟨rfl, hb⟩
      replace B7 := Aside0.mk (below_blk B7.out hb)
      replace HK := Aside0.mk (below_step HK.out hb)
      replace HB := Aside0.mk (below_step HB.out hb)
      clear hck2 hb c7_0 c7_1
      by_cases h4 : d1 = 4
      · have t0 : (d1 == 4) = true := beq_iff_eq.2 h4
        clear h4 HNZ HFL hrr
        go_wp2_with ((with_reducible refine gate_store (t := 29) (p := 7) rfl ?_); refine store_whole rfl rfl 29 _ _ rfl w7.heap.size _ 29 rfl (blk_new _ _) _ rfl rfl rfl (by simp [Value.oneCell']) ?_; intro w2 hb2 hg2; replace B7 := Aside0.mk (blk_as B7.out hg2); replace HB := Aside0.mk (below_as HB.out hg2); obtain ⟨g8, hq_⟩ : ∃ g_, g_ = w7.heap.size := ⟨_, rfl⟩; rw [← hq_] at hb2; rw [← hq_]; have B8 := Aside0.mk hb2; replace HK := Aside0.mk (below_as HK.out hg2); clear hb2 hg2 hq_; have c8_0 := (blk_cell B8.out 0).trans rfl; have c8_1 := (blk_cell B8.out 1).trans rfl; have c8_2 := (blk_cell B8.out 2).trans rfl; have c7_0 := (blk_cell B7.out 0).trans rfl; have c7_1 := (blk_cell B7.out 1).trans rfl)
        go_ret
        exact ⟨rfl, HB.out⟩
      have t0 : (d1 == 4) = false := beq_eq_false_iff_ne.2 h4
      have hrr0 : rr ≠ 0 := HFL.out.resolve_left h4
      have t1 : (rr != 0) = true := by rw [bne, beq_eq_false_iff_ne.2 hrr0]; rfl
      have t2 : (d1 != 0) = true := by rw [bne, beq_eq_false_iff_ne.2 HNZ.out]; rfl
      clear h4 hrr0 HFL HNZ
      go_wp2_with ((with_reducible refine gate_store (t := 29) (p := 7) rfl ?_); refine store_whole rfl rfl 29 _ _ rfl w7.heap.size _ 29 rfl (blk_new _ _) _ rfl rfl rfl (by simp [Value.oneCell']) ?_; intro w2 hb2 hg2; replace B7 := Aside0.mk (blk_as B7.out hg2); replace HB := Aside0.mk (below_as HB.out hg2); obtain ⟨g8, hq_⟩ : ∃ g_, g_ = w7.heap.size := ⟨_, rfl⟩; rw [← hq_] at hb2; rw [← hq_]; have B8 := Aside0.mk hb2; replace HK := Aside0.mk (below_as HK.out hg2); clear hb2 hg2 hq_; have c8_0 := (blk_cell B8.out 0).trans rfl; have c8_1 := (blk_cell B8.out 1).trans rfl; have c8_2 := (blk_cell B8.out 2).trans rfl; have c7_0 := (blk_cell B7.out 0).trans rfl; have c7_1 := (blk_cell B7.out 1).trans rfl)
      refine (hrr _ HK.out).mono ?_
      rintro e w9 ⟨rfl, hb⟩
      replace B8 := Aside0.mk (below_blk B8.out hb)
      replace HB := Aside0.mk (below_step HB.out hb)
      clear hb hrr c8_0 c8_1 c8_2 c7_0 c7_1
      have c8_0 := (blk_cell B8.out 0).trans rfl
      have c8_1 := (blk_cell B8.out 1).trans rfl
      have c8_2 := (blk_cell B8.out 2).trans rfl
      go_wp2_with fail
      go_ret
      exact ⟨rfl, HB.out⟩

end Go.Proofs.YtggfnbnochmkdaaGreat
