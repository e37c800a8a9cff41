/- JOINED of 2 texts: Package tree: Right. Package scope: a program's first fault. -/
import Derived.Test.YtggfnbnochmkdaaGreatTj
import Derived.Test.YtggfnbnochmkdaaGreatSl
namespace Go.Proofs.YtggfnbnochmkdaaGreat
open Go Go.RowKit Go.Lib Go.Proofs.YtggfnbnochmkdaaGreatW.PrintWords Go.Proofs.YtggfnbnochmkdaaGreat.PScope
set_option maxRecDepth 100000
set_option linter.unusedSimpArgs false
set_option linter.unusedVariables false
def bigP (p : Int × Int) : Bool := decide (p.1 > 300) || decide (p.2 > 40)
def fitsB (n : S35) : Bool := !bigP ((ndEx n).foldl acc (0, 0))
def rightP (es : List S38) (ns : List S35) (made : Bool) : Int := if programB made es ns = true then (if ns.all fitsB = true then 0 else 9) else 10
set_option maxHeartbeats 8000000 in
theorem right_calls (made : Bool) (es : List S38) (ns : List S35) (Ae An : Option Addr) (ce cn : Nat) (w : World) (he : k38.C w Ae es.length es) (hn : k35.C w An ns.length ns) :
   Calls Tryz.prog 12 #[.agg #[.slice Ae es.length ce, .slice An ns.length cn], .bool made] w fun e w' => e = .returned (.int .i64 (rightP es ns made)) ∧ Below w.heap.size w w' := by
 have HE := Aside0.mk he; have HN := Aside0.mk hn
 have HB := Aside0.mk (Below.refl w.heap.size w)
 have hpr := fun (W : World) (hB : Below w.heap.size w W) => program_calls made es ns Ae An ce cn W (Kd.C_below he hB) (Kd.C_below hn hB)
 clear he hn
 have hu := Tryz.underlying25
 have hu2 := Tryz.underlying71
 have hu3 := Tryz.underlying35
 have HF := Aside0.mk (show rightP es ns made = (if programB made es ns = true then (if ns.all fitsB = true then 0 else 9) else 10) from rfl)
 generalize programB made es ns = pb at hpr HF
 go_enter Tryz.func12, Tryz.ntmps12
 go_wp2_with ((with_reducible refine gate_dst (N := 2) rfl ?_); refine box_event ?hg (N := 2) ?hd (cs := #[.slice Ae es.length ce, .slice An ns.length cn]) (t := 25) ?hr ?_; (case hd => rfl); (case hg => rfl); (case hr => first | (go_simp; done) | (go_simp; rfl)); intro g2 hg_ w_ hbox hb; have B2 := Aside0.mk hbox; have LB2 := Aside0.mk ((by rw [hg_]; exact below_size HB.out) : w.heap.size ≤ g2); replace HB := Aside0.mk (below_step HB.out hb); clear hb hbox hg_; have cg2_0 := (blk_cell B2.out 0).trans rfl; have cg2_1 := (blk_cell B2.out 1).trans rfl)
 with_reducible refine (hpr _ HB.out).mono ?_
 rintro e w3 ⟨rfl, hb⟩
 replace B2 := Aside0.mk (below_blk B2.out hb)
 replace HB := Aside0.mk (below_step HB.out hb)
 clear hb hpr cg2_0 cg2_1
 cases pb with
 | false =>
   go_wp2_with fail
   go_ret
   exact ⟨by rw [HF.out]; rfl, HB.out⟩
 | true =>
 rw [if_pos rfl] at HF
 have cg2_0 := (blk_cell B2.out 0).trans rfl
 have cg2_1 := (blk_cell B2.out 1).trans rfl
 go_wp2_with fail
 clear cg2_0 cg2_1
 go_loopg [17] ns.length (fun gg s_ wr => ∃ kk : Nat, kk ≤ ns.length ∧ ns.length - kk ≤ gg ∧ s_ = .int .i64 kk ∧ Aside0 (Below w.heap.size w wr) ∧ Aside0 (∀ j, j < kk → fitsB (ns.getD j z35) = true))
 case atStart => exact ⟨0, Nat.zero_le _, by omega, rfl, HB, ⟨fun j hj => absurd hj (Nat.not_lt_zero _)⟩⟩
 case round =>
   clear HB B2 LB2
   obtain ⟨kk, hkk, hg, rfl, HB, N⟩ := hrel
   have hmx : ns.length ≤ 9223372036854775807 := (HN.out).2.1
   by_cases hlt : kk < ns.length
   · have hltz : (kk : Int) < (ns.length : Int) := by omega
     obtain ⟨ead, ecs, rfl, _, eK, ecc⟩ := Kd.C_get HN.out z35 (kk : Int) (by omega) (by omega)
     have eK' := eK
     obtain ⟨eA1, ec1, eA2, ec2, eA3, ec3, eA4, ec4, rfl, el1, eg1, el2, eg2, el3, eg3, el4, eg4⟩ := k35_open eK'
     have ex0 := (HB.out.cell (World.block_lt_of_cell? w _ (ecc 0 _ rfl))).trans (ecc 0 _ rfl)
     have ex1 := (HB.out.cell (World.block_lt_of_cell? w _ (ecc 1 _ rfl))).trans (ecc 1 _ rfl)
     have ex2 := (HB.out.cell (World.block_lt_of_cell? w _ (ecc 2 _ rfl))).trans (ecc 2 _ rfl)
     have ex3 := (HB.out.cell (World.block_lt_of_cell? w _ (ecc 3 _ rfl))).trans (ecc 3 _ rfl)
     have ex4 := (HB.out.cell (World.block_lt_of_cell? w _ (ecc 4 _ rfl))).trans (ecc 4 _ rfl)
     rw [show (k35).sz = 5 from rfl, Nat.add_zero, Int.toNat_natCast] at ex0
     rw [show (k35).sz = 5 from rfl, Int.toNat_natCast, add_field _ _ 1 (by omega)] at ex1
     rw [show (k35).sz = 5 from rfl, Int.toNat_natCast, add_field _ _ 2 (by omega)] at ex2
     rw [show (k35).sz = 5 from rfl, Int.toNat_natCast, add_field _ _ 3 (by omega)] at ex3
     rw [show (k35).sz = 5 from rfl, Int.toNat_natCast, add_field _ _ 4 (by omega)] at ex4
     clear ecc
     try simp only [Int.toNat_natCast] at ex0 ex1 ex2 ex3 ex4 eK el1 eg1 el2 eg2 el3 eg3 el4 eg4
     generalize Yy0 : ns.getD kk z35 = y at ex0 ex1 ex2 ex3 ex4 eK el1 eg1 el2 eg2 el3 eg3 el4 eg4
     have Yy := Aside0.mk Yy0; clear Yy0
     have eL1 := Aside0.mk el1; have eG1 := Aside0.mk eg1; clear el1 eg1
     have eL2 := Aside0.mk el2; have eG2 := Aside0.mk eg2; clear el2 eg2
     have eL3 := Aside0.mk el3; have eG3 := Aside0.mk eg3; clear el3 eg3
     have eL4 := Aside0.mk el4; have eG4 := Aside0.mk eg4; clear el4 eg4
     have hq : fitsB y = !bigP ((ndEx y).foldl acc (0, 0)) := rfl
     have HQ := Aside0.mk hq; clear hq
     go_wp2_with (first | ((with_reducible refine gate_store (t := 35) (p := 6) rfl ?_); refine store_whole rfl rfl 35 _ _ rfl wr.heap.size _ 35 rfl (blk_new _ _) _ rfl rfl rfl (by simp [Value.oneCell']) ?_; intro w2 hb2 hg2; replace HB := Aside0.mk (below_as HB.out hg2); obtain ⟨ge, hq_⟩ : ∃ g_, g_ = wr.heap.size := ⟨_, rfl⟩; rw [← hq_] at hb2; rw [← hq_]; have BE := Aside0.mk hb2; clear hb2 hg2 hq_; skip; have ce_0 := (blk_cell BE.out 0).trans rfl; have ce_1 := (blk_cell BE.out 1).trans rfl; have ce_2 := (blk_cell BE.out 2).trans rfl; have ce_3 := (blk_cell BE.out 3).trans rfl; have ce_4 := (blk_cell BE.out 4).trans rfl) | ((with_reducible refine gate_dst (N := 7) rfl ?_); refine box_event ?hg (N := 7) ?hd (cs := #[.int .i64 0]) (t := 3) ?hr ?_; (case hd => rfl); (case hg => rfl); (case hr => first | (go_simp; done) | (go_simp; rfl)); intro ga_ hg_ w_ hbox hb; have HA_ := Aside0.mk (show CellI w_ ga_ 0 from hbox); have LGA := Aside0.mk (show w.heap.size ≤ ga_ by rw [hg_]; exact HB.out.size); have NEA := Aside0.mk (show ge ≠ ga_ by have := blk_lt BE.out; omega); have BE6 := Aside0.mk (below_blk BE.out hb); have HB6 := Aside0.mk (below_step HB.out hb); clear hb hbox hg_) | ((with_reducible refine gate_dst (N := 8) rfl ?_); refine box_event ?hg (N := 8) ?hd (cs := #[.int .i64 0]) (t := 3) ?hr ?_; (case hd => rfl); (case hg => rfl); (case hr => first | (go_simp; done) | (go_simp; rfl)); intro gd_ hg_ w_ hbox hb; have HD_ := Aside0.mk (show CellI w_ gd_ 0 from hbox); have LGD := Aside0.mk (show w.heap.size ≤ gd_ by rw [hg_]; exact HB6.out.size); have NED := Aside0.mk (show ge ≠ gd_ by have := blk_lt BE6.out; omega); have NAD := Aside0.mk (show gd_ ≠ ga_ by have := blk_lt HA_.out; omega); replace HA_ := Aside0.mk (show CellI w_ ga_ 0 from below_blk HA_.out hb); have BE_ := Aside0.mk (below_blk BE6.out hb); have HB_ := Aside0.mk (below_step HB6.out hb); clear hb hbox hg_) | ((with_reducible refine gate_store (t := 3) (p := 7) rfl ?_); refine store_one rfl rfl 3 _ _ rfl ga_ _ 3 rfl HA_.out (.int .i64 0) rfl rfl rfl rfl ?_; intro w7 hb7 hg7; have HA := Aside0.mk (show CellI w7 ga_ 0 from hb7); have HD7 := Aside0.mk (show CellI w7 gd_ 0 from (hg7.block gd_ (blk_lt HD_.out) (by intro e; injection e with e; exact NAD.out e)).trans HD_.out); have BE7 := Aside0.mk (show w7.heap[ge]? = _ from (hg7.block ge (blk_lt BE_.out) (by intro e; injection e with e; exact NEA.out e)).trans BE_.out); have HB7 := Aside0.mk (HB_.out.grown hg7 HB_.out.size (fun k hk => by cases hk; exact LGA.out)); clear hb7 hg7) | ((with_reducible refine gate_store (t := 3) (p := 8) rfl ?_); refine store_one rfl rfl 3 _ _ rfl gd_ _ 3 rfl HD7.out (.int .i64 0) rfl rfl rfl rfl ?_; intro w8 hb8 hg8; have HD := Aside0.mk (show CellI w8 gd_ 0 from hb8); have HA8 := Aside0.mk (show CellI w8 ga_ 0 from (hg8.block ga_ (blk_lt HA.out) (by intro e; injection e with e; exact NAD.out e.symm)).trans HA.out); have BE8 := Aside0.mk (show w8.heap[ge]? = _ from (hg8.block ge (blk_lt BE7.out) (by intro e; injection e with e; exact NED.out e)).trans BE7.out); have HB8 := Aside0.mk (HB7.out.grown hg8 HB7.out.size (fun k hk => by cases hk; exact LGD.out)); have ce_0 := (blk_cell BE8.out 0).trans rfl; have ce_1 := (blk_cell BE8.out 1).trans rfl; have ce_2 := (blk_cell BE8.out 2).trans rfl; have ce_3 := (blk_cell BE8.out 3).trans rfl; have ce_4 := (blk_cell BE8.out 4).trans rfl; clear hb8 hg8))
     with_reducible refine (each_calls y w w8 _ (eK) HB8.out ga_ gd_ 0 0 (Ne.symm NAD.out) LGA.out LGD.out HA8.out HD.out).mono ?_
     rintro e w9 ⟨rfl, ha, hd, ht⟩
     have HAF := Aside0.mk ha; have HDF := Aside0.mk hd
     have HB9 := Aside0.mk (ht.below HB8.out HB8.out.size (fun k hk => by rcases hk with rfl | rfl; exact LGA.out; exact LGD.out))
     clear ha hd ht
     have ca := (blk_cell HAF.out 0).trans rfl
     have cd := (blk_cell HDF.out 0).trans rfl
     generalize hpp : (ndEx y).foldl acc (0, 0) = pp at HQ ca cd
     clear hpp HAF HDF
     obtain ⟨p1, p2⟩ := pp
     have HQ2 := Aside0.mk (show fitsB y = !(decide (p1 > 300) || decide (p2 > 40)) from HQ.out)
     clear HQ
     have ca' : w9.cell? ⟨ga_, 0, none⟩ = some (.int .i64 p1) := ca
     have cd' : w9.cell? ⟨gd_, 0, none⟩ = some (.int .i64 p2) := cd
     clear ca cd
     by_cases k1 : p1 > 300
     · have d1 : decide (p1 > 300) = true := decide_eq_true k1
       have D1 := Aside0.mk d1; clear k1
       go_wp2_with fail
       go_ret
       exact ⟨by rw [HF.out, all_getD_no ns fitsB z35 kk hlt (by rw [Yy.out, HQ2.out, D1.out]; rfl)]; rfl, HB9.out⟩
     have d1 : decide (p1 > 300) = false := decide_eq_false k1
     have D1 := Aside0.mk d1; clear k1
     by_cases k2 : p2 > 40
     · have d2 : decide (p2 > 40) = true := decide_eq_true k2
       have D2 := Aside0.mk d2; clear k2
       go_wp2_with fail
       go_ret
       exact ⟨by rw [HF.out, all_getD_no ns fitsB z35 kk hlt (by rw [Yy.out, HQ2.out, D1.out, D2.out]; rfl)]; rfl, HB9.out⟩
     have d2 : decide (p2 > 40) = false := decide_eq_false k2
     have D2 := Aside0.mk d2; clear k2
     go_wp2_with fail
     go_roundg (ns.length - (kk + 1))
     case measure => omega
     case rel =>
       refine ⟨kk + 1, by omega, by omega, by go_num, HB9, ⟨fun j hj => ?_⟩⟩
       by_cases e : j = kk
       · subst e; rw [Yy.out, HQ2.out, D1.out, D2.out]; rfl
       · exact N.out j (by omega)
   · have hltz : ¬ (kk : Int) < (ns.length : Int) := by omega
     obtain rfl : kk = ns.length := by omega
     have ALL := Aside0.mk (all_getD _ _ _ N.out)
     go_wp2_with fail
     go_ret
     exact ⟨by rw [HF.out, ALL.out]; rfl, HB.out⟩
def enumM (m : Mp) (t : S38) : Mp := { m with enums := addP m.enums t.f0, cons := addL m.cons t.f1 }
def enumOk (m : Mp) (t : S38) : Bool := !m.enums t.f0 && freshL m.cons t.f1
def runEnums : Mp → List S38 → Nat → Option Nat × Mp
 | m, [], _ => (none, m)
 | m, t :: r, i => if enumOk m t = true then runEnums (enumM m t) r (i + 1) else (some i, m)
def nodeM (m : Mp) (n : S35) (k : Nat) : Mp := { m with nodes := mupd m.nodes n.f0 (k : Int) }
def runNodes (es : List S38) (ns : List S35) : Mp → List S35 → Nat → Int × Int × Int
 | _, [], _ => (0, 0, 0)
 | m, n :: r, k => if (nodeR es ns m n).2.1 = true then (4, (k : Int), (nodeR es ns m n).1) else runNodes es ns (nodeM (nodeR es ns m n).2.2 n k) r (k + 1)
def scopeE (es : List S38) (ns : List S35) (R : Option Nat × Mp) : Int × Int × Int :=
 match R with | (some i, _) => (4, -1, (i : Int)) | (none, m) => runNodes es ns m ns 0
def checkR (made : Bool) (es : List S38) (ns : List S35) : Int × Int × Int :=
 if rightP es ns made = 0 then scopeE es ns (runEnums m0 es 0) else (rightP es ns made, 0, 0)
theorem runEnums_no {m : Mp} {l : List S38} {k : Nat} {y : S38} (h : k < l.length) (e : l.getD k z38 = y) (b : Nat) (hd : enumOk m y = false) : runEnums m (l.drop k) b = (some b, m) := by
 rw [drop_getD2 l z38 k h, e, runEnums, hd]; rfl
theorem runEnums_yes {m : Mp} {l : List S38} {k : Nat} {y : S38} (h : k < l.length) (e : l.getD k z38 = y) (b : Nat) (hd : enumOk m y = true) : runEnums m (l.drop k) b = runEnums (enumM m y) (l.drop (k + 1)) (b + 1) := by
 rw [drop_getD2 l z38 k h, e, runEnums, if_pos hd]
theorem runNodes_no {es : List S38} {ns : List S35} {m : Mp} {l : List S35} {k : Nat} {y : S35} (h : k < l.length) (e : l.getD k z35 = y) (b : Nat) {a : Int} {m' : Mp} (hd : nodeR es ns m y = (a, true, m')) : runNodes es ns m (l.drop k) b = (4, (b : Int), a) := by
 rw [drop_getD2 l z35 k h, e, runNodes, hd]; rfl
theorem runNodes_yes {es : List S38} {ns : List S35} {m : Mp} {l : List S35} {k : Nat} {y : S35} (h : k < l.length) (e : l.getD k z35 = y) (b : Nat) {a : Int} {m' : Mp} (hd : nodeR es ns m y = (a, false, m')) : runNodes es ns m (l.drop k) b = runNodes es ns (nodeM m' y b) (l.drop (k + 1)) (b + 1) := by
 rw [drop_getD2 l z35 k h, e, runNodes, hd]; rfl
theorem nodeR_nodes (es : List S38) (ns : List S35) (m : Mp) (n : S35) : (nodeR es ns m n).2.2.nodes = m.nodes := by
 unfold nodeR
 split
 · have h := runDefs_nodes n.f4 m (mkM 0 n.f2) 0
   unfold nodeT
   split
   · rename_i b m' V hR; rw [hR] at h; exact h
   · rename_i m' V hR; rw [hR] at h
     split
     · exact h
     · unfold nodeE; split <;> exact h
 · rfl
theorem nodesOk_more {ns : List S35} {m : Mp} (h : NodesOk m ns) (n : S35) (k : Nat) (hk : k < ns.length) : NodesOk (nodeM m n k) ns := by
 intro s j hj
 unfold nodeM mupd at hj
 simp only at hj
 split at hj
 · have := Option.some.inj hj; omega
 · exact h s j hj
theorem allB_len {l : List ByteArray} {a b : Int} {q : ByteArray → Bool} (h : allB l a b q = true) : (l.length : Int) ≤ b := by
 unfold allB at h; simp only [Bool.and_eq_true, decide_eq_true_eq] at h; exact h.1.2
theorem all_at {α : Type} {l : List α} {q : α → Bool} (h : l.all q = true) (z : α) (i : Nat) (hi : i < l.length) : q (l.getD i z) = true := by
 rw [List.getD_eq_getElem?_getD, List.getElem?_eq_getElem hi]
 exact List.all_eq_true.1 h _ (List.getElem_mem hi)
theorem notany_at {α : Type} {l : List α} {q : α → Bool} (h : (!l.any (fun k => !q k)) = true) (z : α) (i : Nat) (hi : i < l.length) : q (l.getD i z) = true := by
 rw [← all_any_not] at h; exact all_at h z i hi
theorem flat_len {α : Type} {l : List α} {f : α → List ByteArray} {n : Nat} (h : ∀ x ∈ l, (f x).length ≤ n) : (l.flatMap f).length ≤ l.length * n := by
 induction l with
 | nil => simp
 | cons x r ih =>
   rw [List.flatMap_cons, List.length_append, List.length_cons]
   have h1 := h x (List.mem_cons_self ..)
   have h2 := ih (fun y hy => h y (List.mem_cons_of_mem _ hy))
   rw [Nat.succ_mul]; omega
theorem stateEx_of {made : Bool} {s : S65} (h : stateB made s = true) : StEx made s ∧ s.f1.length ≤ 24 ∧ ∀ q ∈ s.f1, q.f0.length ≤ 6 := by
 unfold stateB at h
 simp only [Bool.and_eq_true, decide_eq_true_eq] at h
 obtain ⟨_, h1, _, h2, h3⟩ := h
 refine ⟨⟨fun j hj => ?_, fun j hj => ?_⟩, h1, fun q hq => ?_⟩
 · have := all_at h2 z44 j hj
   unfold eqB at this; simp only [Bool.and_eq_true] at this; exact this.2
 · have := all_at h3 z93 j hj
   unfold wayB at this; simp only [Bool.and_eq_true] at this; exact this.2
 · have := List.all_eq_true.1 h2 q hq
   unfold eqB at this; simp only [Bool.and_eq_true] at this
   have := allB_len this.1; omega
theorem itemFit_of {made : Bool} {x : S47} (h : itemB made x = true) : ItemFit made x := by
 unfold itemB at h
 by_cases e : x.f1.length = 0
 · rw [if_pos e] at h
   unfold eqB at h; simp only [Bool.and_eq_true] at h
   refine ⟨⟨fun _ => h.2, fun i hi => absurd hi (by omega)⟩, ?_, fun i hi => absurd hi (by omega)⟩
   unfold definesL; rw [if_pos e]
   have := allB_len h.1; omega
 · rw [if_neg e] at h
   simp only [Bool.and_eq_true] at h
   have hs := fun i hi => stateEx_of (notany_at h.2 z65 i hi)
   refine ⟨⟨fun h0 => absurd h0 e, fun i hi => (hs i hi).1⟩, ?_, fun i hi => (hs i hi).2.1⟩
   unfold definesL; rw [if_neg e]
   have h0 := hs 0 (by omega)
   have := flat_len (l := (x.f1.getD 0 z65).f1) (f := fun q => q.f0) (n := 6) h0.2.2
   have := h0.2.1
   omega
theorem nodeFit_of {made : Bool} {n : S35} (h : nodeB made n = true) : NodeFit made n := by
 unfold nodeB at h
 simp only [Bool.and_eq_true] at h
 obtain ⟨_, h1, h2, _, _, h5⟩ := h
 have a1 := allB_len h1
 have a2 := allB_len h2
 exact ⟨⟨by omega, by omega⟩, fun i hi => itemFit_of (notany_at h5 z47 i hi)⟩
theorem nodes_fit {made : Bool} {es : List S38} {ns : List S35} (h : rightP es ns made = 0) : ∀ i, i < ns.length → NodeFit made (ns.getD i z35) := by
 intro i hi
 unfold rightP at h
 by_cases hp : programB made es ns = true
 · unfold programB at hp
   simp only [Bool.and_eq_true] at hp
   exact nodeFit_of (notany_at hp.2.2.2.2 z35 i hi)
 · rw [if_neg hp] at h; omega
theorem rightP_cases (es : List S38) (ns : List S35) (made : Bool) : rightP es ns made = 0 ∨ rightP es ns made = 9 ∨ rightP es ns made = 10 := by
 unfold rightP; split
 · split <;> simp
 · simp
set_option maxHeartbeats 16000000 in
theorem check_calls (made : Bool) (es : List S38) (ns : List S35) (Ae An : Option Addr) (ce cn : Nat) (w : World) (he : k38.C w Ae es.length es) (hn : k35.C w An ns.length ns) :
   Calls Tryz.prog 6 #[.agg #[.slice Ae es.length ce, .slice An ns.length cn], .bool made] w fun e w' => e = .returned (.agg #[.int .i64 (checkR made es ns).1, .int .i64 (checkR made es ns).2.1, .int .i64 (checkR made es ns).2.2]) ∧ Below w.heap.size w w' := by
 have HE := Aside0.mk he; have HN := Aside0.mk hn
 have HB := Aside0.mk (Below.refl w.heap.size w)
 have hri := fun (W : World) (hB : Below w.heap.size w W) => right_calls made es ns Ae An ce cn W (Kd.C_below he hB) (Kd.C_below hn hB)
 clear he hn
 have HFIT := Aside0.mk (nodes_fit (made := made) (es := es) (ns := ns))
 have HCA := Aside0.mk (rightP_cases es ns made)
 have HR := Aside0.mk (show checkR made es ns = (if rightP es ns made = 0 then scopeE es ns (runEnums m0 es 0) else (rightP es ns made, 0, 0)) from rfl)
 generalize checkR made es ns = C at HR ⊢
 generalize rightP es ns made = r at hri HFIT HCA HR
 have hu1 := Tryz.underlying25
 have hu2 := Tryz.underlying35
 have hu6 := Tryz.underlying60
 have hu7 := Tryz.underlying27
 have hm1 := Tryz.underlying58
 have hk := Tryz.underlying9
 have HUF := Aside0.mk Tryz.underlying29
 go_enter Tryz.func6, Tryz.ntmps6
 go_upto_region 1 with ((with_reducible refine gate_dst (N := 2) rfl ?_); refine box_event ?hg (N := 2) ?hd (cs := #[.slice Ae es.length ce, .slice An ns.length cn]) (t := 25) ?hr ?_; (case hd => rfl); (case hg => rfl); (case hr => first | (go_simp; done) | (go_simp; rfl)); intro g2 hg_ w3 hbox hb; have B2 := Aside0.mk hbox; have LB2 := Aside0.mk ((by rw [hg_]; exact below_size HB.out) : w.heap.size ≤ g2); replace HB := Aside0.mk (below_step HB.out hb); clear hb hbox hg_)
 have Q4 := Aside0.mk (blk_new w3 (.cells #[.int .i64 0, .int .i64 0, .int .i64 0] 29 (0, 0)))
 replace B2 := Aside0.mk (blk_alloc B2.out (.cells #[.int .i64 0, .int .i64 0, .int .i64 0] 29 (0, 0)))
 have L4 := Aside0.mk (HB.out.size)
 replace HB := Aside0.mk (below_alloc HB.out (.cells #[.int .i64 0, .int .i64 0, .int .i64 0] 29 (0, 0)))
 generalize hg4 : w3.heap.size = g4 at Q4 L4 ⊢
 clear hg4
 generalize w3.alloc (.cells #[.int .i64 0, .int .i64 0, .int .i64 0] 29 (0, 0)) = w4 at Q4 B2 HB ⊢
 have c2_0 := (blk_cell B2.out 0).trans rfl
 have c2_1 := (blk_cell B2.out 1).trans rfl
 go_wp2_with fail
 refine (hri _ HB.out).mono ?_
 rintro e w5 ⟨rfl, hb⟩
 replace B2 := Aside0.mk (below_blk B2.out hb)
 replace Q4 := Aside0.mk (below_blk Q4.out hb)
 replace HB := Aside0.mk (below_step HB.out hb)
 clear hb hri c2_0 c2_1
 by_cases e0 : r ≠ 0
 · have t0 : (r != 0) = true := by rw [bne, beq_eq_false_iff_ne.2 e0]; rfl
   have HF := Aside0.mk (show C = (r, 0, 0) by rw [HR.out, if_neg e0])
   clear e0 HCA HFIT
   go_wp2_with ((with_reducible refine gate_store (t := 29) (p := 4) rfl ?_); refine store_whole rfl rfl 29 _ _ rfl g4 _ 29 rfl Q4.out _ rfl rfl rfl (by simp [Value.oneCell']) ?_; intro wf hbf hgf; have HBF := Aside0.mk hbf; have HGF := Aside0.mk hgf; clear hbf hgf)
   refine bodyPost_ret (results_c1 rfl _ _ g4 29 _ (0, 0) _ rfl HBF.out HUF.out rfl rfl) rfl ?_
   exact ⟨by rw [HF.out], (HB.out).grown HGF.out (HB.out).size (fun k hk => by cases hk; exact L4.out)⟩
 obtain rfl : r = 0 := by omega
 have HF := Aside0.mk (show C = scopeE es ns (runEnums m0 es 0) by rw [HR.out]; rfl)
 clear HR HCA
 have HFIT2 := Aside0.mk (HFIT.out rfl)
 clear HFIT
 have c2_0 := (blk_cell B2.out 0).trans rfl
 have c2_1 := (blk_cell B2.out 1).trans rfl
 go_wp2_with fail
 refine (begin_calls Ae An es.length ce ns.length cn _).mono ?_
 rintro e w6 ⟨B, rfl, hwd, _, hb⟩
 replace HE := Aside0.mk (Kd.C_below HE.out HB.out)
 replace HN := Aside0.mk (Kd.C_below HN.out HB.out)
 have HX := Aside0.mk hb
 have HW := Aside0.mk hwd
 clear hwd hb c2_0 c2_1
 have HE0 := Aside0.mk (show runEnums m0 (es.drop 0) 0 = runEnums m0 es 0 by rw [List.drop_zero])
 generalize runEnums m0 es 0 = R at HF HE0
 have HOK0 := Aside0.mk (show NodesOk m0 ns from fun s k h => by cases h)
 have c2_0 := (blk_cell (below_blk B2.out HX.out) 0).trans rfl
 have c2_1 := (blk_cell (below_blk B2.out HX.out) 1).trans rfl
 go_wp2_with fail
 clear c2_0 c2_1
 go_loopg [24] es.length (fun gg s_ wr => ∃ (kka : Nat) (mk : Mp), kka ≤ es.length ∧ es.length - kka ≤ gg ∧ s_ = .int .i64 kka ∧ Aside0 (Below w5.heap.size w5 wr) ∧ Aside0 (WAt w5.heap.size wr B (.slice Ae es.length ce) (.slice An ns.length cn) mk) ∧ Aside0 (runEnums mk (es.drop kka) kka = R) ∧ Aside0 (NodesOk mk ns))
 case atStart => exact ⟨0, m0, Nat.zero_le _, by omega, rfl, HX, HW, HE0, HOK0⟩
 case round =>
   clear HX HW
   obtain ⟨kka, mk, hkka, hgkka, rfl, HX, HW, HRK, HOK⟩ := hrel
   have hmxa : es.length ≤ 9223372036854775807 := (HE.out).2.1
   by_cases hlta : kka < es.length
   · have hltza : (kka : Int) < (es.length : Int) := by omega
     have HNO := Aside0.mk (runEnums_no (m := mk) (l := es) (k := kka) hlta rfl kka)
     have HYES := Aside0.mk (runEnums_yes (m := mk) (l := es) (k := kka) hlta rfl kka)
     have hen := fun (W : World) (hB : Below w5.heap.size w5 W) (hW : WAt w5.heap.size W B (.slice Ae es.length ce) (.slice An ns.length cn) mk) => enum_calls es ns Ae An ce cn w5 W HE.out hB B mk hW kka hlta
     generalize es.getD kka z38 = y at HNO HYES hen
     go_wp2_with fail
     refine (hen _ HX.out (by exact HW.out)).mono ?_
     rintro e w8 ⟨rfl, hb, hw⟩
     have HX2 := Aside0.mk hb; have HW2 := Aside0.mk hw
     clear hb hw hen
     cases hok : enumOk mk y with
     | false =>
       have hq : (!mk.enums y.f0 && freshL mk.cons y.f1) = false := hok
       rw [hq]
       have HF2 := Aside0.mk (show C = (4, -1, (kka : Int)) by rw [HF.out, ← HRK.out, HNO.out hok]; rfl)
       clear hq hok
       go_wp2_with ((with_reducible refine gate_store (t := 29) (p := 4) rfl ?_); refine store_whole rfl rfl 29 _ _ rfl g4 _ 29 rfl (below_blk Q4.out HX2.out) _ rfl rfl rfl (by simp [Value.oneCell']) ?_; intro wf hbf hgf; have HBF := Aside0.mk hbf; have HGF := Aside0.mk hgf; clear hbf hgf)
       refine bodyPost_ret (results_c1 rfl _ _ g4 29 _ (0, 0) _ rfl HBF.out HUF.out rfl rfl) rfl ?_
       exact ⟨by rw [HF2.out], (below_step HB.out HX2.out).grown HGF.out (below_step HB.out HX2.out).size (fun k hk => by cases hk; exact L4.out)⟩
     | true =>
       have hq : (!mk.enums y.f0 && freshL mk.cons y.f1) = true := hok
       rw [hq]
       have HRK2 := Aside0.mk ((HYES.out hok).symm.trans HRK.out)
       clear hq hok
       go_wp2_with fail
       go_roundg (es.length - (kka + 1))
       case measure => omega
       case rel => exact ⟨kka + 1, enumM mk y, by omega, by omega, by go_num, HX2, HW2, HRK2, HOK⟩
   · have hltza : ¬ (kka : Int) < (es.length : Int) := by omega
     obtain rfl : kka = es.length := by omega
     have HRF := Aside0.mk (show R = (none, mk) by rw [← HRK.out, List.drop_length]; rfl)
     have HF2 := Aside0.mk (show C = runNodes es ns mk ns 0 by rw [HF.out, HRF.out]; rfl)
     clear HF HRF HRK HE0
     have HN0 := Aside0.mk (show runNodes es ns mk (ns.drop 0) 0 = C by rw [List.drop_zero, HF2.out])
     clear HF2
     generalize mk = m1 at HW HOK HN0
     have c2_0 := (blk_cell (below_blk B2.out HX.out) 0).trans rfl
     have c2_1 := (blk_cell (below_blk B2.out HX.out) 1).trans rfl
     go_wp2_with fail
     clear c2_0 c2_1
     go_loopg [37] ns.length (fun gg s_ wr => ∃ (kkb : Nat) (mk : Mp), kkb ≤ ns.length ∧ ns.length - kkb ≤ gg ∧ s_ = .int .i64 kkb ∧ Aside0 (Below w5.heap.size w5 wr) ∧ Aside0 (WAt w5.heap.size wr B (.slice Ae es.length ce) (.slice An ns.length cn) mk) ∧ Aside0 (runNodes es ns mk (ns.drop kkb) kkb = C) ∧ Aside0 (NodesOk mk ns))
     case atStart => exact ⟨0, m1, Nat.zero_le _, by omega, rfl, HX, HW, HN0, HOK⟩
     case round =>
       clear HX HW
       obtain ⟨kkb, mk, hkkb, hgkkb, rfl, HX, HW, HNK, HOK2⟩ := hrel
       have hmxb : ns.length ≤ 9223372036854775807 := (HN.out).2.1
       by_cases hltb : kkb < ns.length
       · have hltzb : (kkb : Int) < (ns.length : Int) := by omega
         have hfit := HFIT2.out kkb hltb
         have hno := fun a m' => runNodes_no (es := es) (ns := ns) (m := mk) (l := ns) (k := kkb) (y := ns.getD kkb z35) hltb rfl kkb (a := a) (m' := m')
         have hyes := fun a m' => runNodes_yes (es := es) (ns := ns) (m := mk) (l := ns) (k := kkb) (y := ns.getD kkb z35) hltb rfl kkb (a := a) (m' := m')
         obtain ⟨yad, ycs, rfl, _, yK, ycc⟩ := Kd.C_get HN.out z35 (kkb : Int) (by omega) (by omega)
         have yK' := yK
         obtain ⟨yA1, yc1, yA2, yc2, yA3, yc3, yA4, yc4, rfl, yl1, yg1, yl2, yg2, yl3, yg3, yl4, yg4⟩ := k35_open yK'
         have yx0 := (HX.out.cell (World.block_lt_of_cell? w5 _ (ycc 0 _ rfl))).trans (ycc 0 _ rfl)
         have yx1 := (HX.out.cell (World.block_lt_of_cell? w5 _ (ycc 1 _ rfl))).trans (ycc 1 _ rfl)
         have yx2 := (HX.out.cell (World.block_lt_of_cell? w5 _ (ycc 2 _ rfl))).trans (ycc 2 _ rfl)
         have yx3 := (HX.out.cell (World.block_lt_of_cell? w5 _ (ycc 3 _ rfl))).trans (ycc 3 _ rfl)
         have yx4 := (HX.out.cell (World.block_lt_of_cell? w5 _ (ycc 4 _ rfl))).trans (ycc 4 _ rfl)
         rw [show (k35).sz = 5 from rfl, Nat.add_zero, Int.toNat_natCast] at yx0
         rw [show (k35).sz = 5 from rfl, Int.toNat_natCast, add_field _ _ 1 (by omega)] at yx1
         rw [show (k35).sz = 5 from rfl, Int.toNat_natCast, add_field _ _ 2 (by omega)] at yx2
         rw [show (k35).sz = 5 from rfl, Int.toNat_natCast, add_field _ _ 3 (by omega)] at yx3
         rw [show (k35).sz = 5 from rfl, Int.toNat_natCast, add_field _ _ 4 (by omega)] at yx4
         clear ycc
         try simp only [Int.toNat_natCast] at yx0 yx1 yx2 yx3 yx4 yK yl1 yg1 yl2 yg2 yl3 yg3 yl4 yg4
         generalize Yy0 : ns.getD kkb z35 = y at hfit hno hyes yx0 yx1 yx2 yx3 yx4 yK yl1 yg1 yl2 yg2 yl3 yg3 yl4 yg4
         have Yy := Aside0.mk Yy0; clear Yy0
         have yL1 := Aside0.mk yl1; have yG1 := Aside0.mk yg1; clear yl1 yg1
         have yL2 := Aside0.mk yl2; have yG2 := Aside0.mk yg2; clear yl2 yg2
         have yL3 := Aside0.mk yl3; have yG3 := Aside0.mk yg3; clear yl3 yg3
         have yL4 := Aside0.mk yl4; have yG4 := Aside0.mk yg4; clear yl4 yg4
         have HFI := Aside0.mk hfit; have HNO := Aside0.mk hno; have HYES := Aside0.mk hyes
         have hnd := fun (W : World) (hB : Below w5.heap.size w5 W) (hW : WAt w5.heap.size W B (.slice Ae es.length ce) (.slice _ ns.length cn) mk) => snode_calls made es ns Ae _ ce cn w5 HE.out HN.out B mk y W _ yK hB hW HOK2.out HFI.out
         have HNR := Aside0.mk (nodeR_nodes es ns mk y)
         generalize nodeR es ns mk y = nr at hnd HNO HYES HNR
         clear hfit hno hyes yK
         go_wp2_with ((with_reducible refine gate_store (t := 35) (p := 9) rfl ?_); refine store_whole rfl rfl 35 _ _ rfl wr.heap.size _ 35 rfl (blk_new _ _) _ rfl rfl rfl (by simp [Value.oneCell']) ?_; intro w2 hb2 hg2; replace HX := Aside0.mk (below_as HX.out hg2); replace HW := Aside0.mk (HW.out.as hg2); obtain ⟨g9, hq_⟩ : ∃ g_, g_ = wr.heap.size := ⟨_, rfl⟩; rw [← hq_] at hb2; rw [← hq_]; have B9 := Aside0.mk hb2; clear hb2 hg2 hq_; have c9_0 := (blk_cell B9.out 0).trans rfl; have c9_1 := (blk_cell B9.out 1).trans rfl; have c9_2 := (blk_cell B9.out 2).trans rfl; have c9_3 := (blk_cell B9.out 3).trans rfl; have c9_4 := (blk_cell B9.out 4).trans rfl)
         refine (hnd _ HX.out (by exact HW.out)).mono ?_
         rintro e w8 ⟨a, b, m', hR, rfl, hb, hx, hw⟩
         have HX2 := Aside0.mk hb; have HW2 := Aside0.mk hw; have HR2 := Aside0.mk hR
         replace B9 := Aside0.mk (hx.2 _ _ _ _ B9.out)
         clear hb hw hx hR hnd c9_0 c9_1 c9_2 c9_3 c9_4
         cases b with
         | true =>
           have HF3 := Aside0.mk (show C = (4, (kkb : Int), a) by rw [← HNK.out, HNO.out a m' HR2.out])
           go_wp2_with ((with_reducible refine gate_store (t := 29) (p := 4) rfl ?_); refine store_whole rfl rfl 29 _ _ rfl g4 _ 29 rfl (below_blk Q4.out HX2.out) _ rfl rfl rfl (by simp [Value.oneCell']) ?_; intro wf hbf hgf; have HBF := Aside0.mk hbf; have HGF := Aside0.mk hgf; clear hbf hgf)
           refine bodyPost_ret (results_c1 rfl _ _ g4 29 _ (0, 0) _ rfl HBF.out HUF.out rfl rfl) rfl ?_
           exact ⟨by rw [HF3.out], (below_step HB.out HX2.out).grown HGF.out (below_step HB.out HX2.out).size (fun k hk => by cases hk; exact L4.out)⟩
         | false =>
           have HNK2 := Aside0.mk ((HYES.out a m' HR2.out).symm.trans HNK.out)
           have HOK3 := Aside0.mk (nodesOk_more (m := m') (fun s k h => HOK2.out s k (by have hq := HNR.out; rw [HR2.out] at hq; rw [← hq]; exact h)) y kkb hltb)
           have HW3 := Aside0.mk (HW2.out rfl)
           clear HW HX HW2 HNR HR2 HNO HYES HFI
           have HW := HW3; have HX := HX2; clear HW3 HX2
           have cw0 := (blk_cell HW.out.wd 0).trans rfl
           have cw1 := (blk_cell HW.out.wd 1).trans rfl
           have cw2 := (blk_cell HW.out.wd 2).trans rfl
           have cw3 := (blk_cell HW.out.wd 3).trans rfl
           have cw4 := (blk_cell HW.out.wd 4).trans rfl
           have cw5 := (blk_cell HW.out.wd 5).trans rfl
           have c9_0 := (blk_cell B9.out 0).trans rfl
           have c9_1 := (blk_cell B9.out 1).trans rfl
           have c9_2 := (blk_cell B9.out 2).trans rfl
           have c9_3 := (blk_cell B9.out 3).trans rfl
           have c9_4 := (blk_cell B9.out 4).trans rfl
           go_wp2_with fail
           go_still_tail 7, (by kernel_rfl)
           change wpList _ _ _ _ _ (World.drew w8)
           have HX_ := Aside0.mk (below_drew1 HX.out); clear HX
           have HW_ := Aside0.mk (WAt.drew HW.out); clear HW
           have B9_ := Aside0.mk (blk_drew B9.out); clear B9
           generalize World.drew w8 = w9 at HX_ HW_ B9_ ⊢
           have HX := HX_; clear HX_
           have HW := HW_; clear HW_
           have B9 := B9_; clear B9_
           clear c9_0 c9_1 c9_2 c9_3 c9_4
           clear cw0 cw1 cw2 cw3 cw4 cw5
           go_wp2_with (at_mapUpdate; refine store_str rfl _ _ _ 58 rfl 9 3 hm1 hk B.nodes _ rfl HW.out.nodes y.f0 rfl (.int .i64 (kkb : Int)) rfl ?_; intro w10 hm hg9; have HM := Aside0.mk hm; have HG9 := Aside0.mk hg9; clear hm hg9)
           have HT9 := Aside0.mk (Turned.of_grown (S := fun k => k = B.nodes) HG9.out (fun k hk => by cases hk; rfl))
           have HX9 := Aside0.mk (HT9.out.below HX.out HX.out.size (fun k hk => by rw [hk]; exact HW.out.low.2.2.2.1))
           have HW9 := Aside0.mk (HW.out.nodes' HT9.out (P := mupd m'.nodes y.f0 (kkb : Int)) (by rw [← menc_mupd]; exact HM.out))
           clear HT9 HM HG9
           go_roundg (ns.length - (kkb + 1))
           case measure => omega
           case rel => exact ⟨kkb + 1, nodeM m' y kkb, by omega, by omega, by go_num, HX9, HW9, HNK2, HOK3⟩
       · have hltzb : ¬ (kkb : Int) < (ns.length : Int) := by omega
         obtain rfl : kkb = ns.length := by omega
         have HF3 := Aside0.mk (show C = (0, 0, 0) by rw [← HNK.out, List.drop_length]; rfl)
         go_wp2_with ((with_reducible refine gate_store (t := 29) (p := 4) rfl ?_); refine store_whole rfl rfl 29 _ _ rfl g4 _ 29 rfl (below_blk Q4.out HX.out) _ rfl rfl rfl (by simp [Value.oneCell']) ?_; intro wf hbf hgf; have HBF := Aside0.mk hbf; have HGF := Aside0.mk hgf; clear hbf hgf)
         refine bodyPost_ret (results_c1 rfl _ _ g4 29 _ (0, 0) _ rfl HBF.out HUF.out rfl rfl) rfl ?_
         exact ⟨by rw [HF3.out], (below_step HB.out HX.out).grown HGF.out (below_step HB.out HX.out).size (fun k hk => by cases hk; exact L4.out)⟩
end Go.Proofs.YtggfnbnochmkdaaGreat
