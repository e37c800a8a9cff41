/- JOINED of 2 texts: Package tree: how many expressions there are in one, and how deep one is. Worlds in which some blocks have turned; what tree.Right adds up. -/
import Derived.Test.YtggfnbnochmkdaaGreatTg
import Derived.Deep.RegionWith
namespace Go.Proofs.YtggfnbnochmkdaaGreat
open Go Go.RowKit Go.Lib Go.Proofs.YtggfnbnochmkdaaGreatW.PrintWords Go.Proofs.YtggfnbnochmkdaaGreat.PScope
set_option maxRecDepth 100000
set_option linter.unusedSimpArgs false
set_option linter.unusedVariables false
mutual
def sizeE : S42 → Int
 | ⟨_, _, _, _, k⟩ => sizeL k 1
def sizeL : List S42 → Int → Int
 | [], n => n
 | k :: r, n => sizeL r (wrap64 (n + sizeE k))
end
mutual
def depthE : S42 → Int
 | ⟨_, _, _, _, k⟩ => wrap64 (depthL k 0 + 1)
def depthL : List S42 → Int → Int
 | [], n => n
 | k :: r, n => depthL r (max n (depthE k))
end
theorem sizeE_eq (x : S42) : sizeE x = sizeL x.f4 1 := by cases x; rw [sizeE]
theorem depthE_eq (x : S42) : depthE x = wrap64 (depthL x.f4 0 + 1) := by cases x; rw [depthE]
theorem sizeL_step (l : List S42) (k : Nat) (h : k < l.length) (n : Int) : sizeL (l.drop k) n = sizeL (l.drop (k + 1)) (wrap64 (n + sizeE (l.getD k z42))) := by
 rw [List.drop_eq_getElem_cons h, sizeL, List.getD_eq_getElem?_getD, List.getElem?_eq_getElem h]; rfl
theorem depthL_step (l : List S42) (k : Nat) (h : k < l.length) (n : Int) : depthL (l.drop k) n = depthL (l.drop (k + 1)) (max n (depthE (l.getD k z42))) := by
 rw [List.drop_eq_getElem_cons h, depthL, List.getD_eq_getElem?_getD, List.getElem?_eq_getElem h]; rfl
def tsizeSays (x : S42) : Prop := ∀ (w : World) (cs : List Value), k42.K w x cs → Calls Tryz.prog 27 #[.agg cs.toArray] w fun e w' => e = .returned (.int .i64 (sizeE x)) ∧ Below w.heap.size w w'
set_option maxHeartbeats 4000000 in
theorem tsize_step (x : S42) (ih : ∀ i, i < x.f4.length → tsizeSays (x.f4.getD i z42)) : tsizeSays x := by
 intro w csx hK
 obtain ⟨A3, c3, A4, c4, rfl, l3, g3, l4, g4⟩ := k42_open hK
 clear hK
 have L3 := Aside0.mk l3; have G3 := Aside0.mk g3; clear l3 g3
 have L4 := Aside0.mk l4; have G4 := Aside0.mk g4; clear l4 g4
 have HB := Aside0.mk (Below.refl w.heap.size w)
 have IH := Aside0.mk ih
 clear ih
 have HF := Aside0.mk (sizeE_eq x)
 have hu := Tryz.underlying42
 go_enter Tryz.func27, Tryz.ntmps27
 go_wp2_with ((with_reducible refine gate_dst (N := 1) rfl ?_); refine box_event ?hg (N := 1) ?hd (cs := #[.int .i64 x.f0, .string x.f1, .int .i64 x.f2, .slice A3 (x.f3).length c3, .slice A4 (x.f4).length c4]) (t := 42) ?hr ?_; (case hd => rfl); (case hg => rfl); (case hr => first | (go_simp; done) | (go_simp; rfl)); intro g1 hg_ w_ hbox hb; have B1 := Aside0.mk hbox; have LB1 := Aside0.mk ((by rw [hg_]; exact below_size HB.out) : w.heap.size ≤ g1); replace HB := Aside0.mk (below_step HB.out hb); clear hb hbox hg_; have cg1_0 := (blk_cell B1.out 0).trans rfl; have cg1_1 := (blk_cell B1.out 1).trans rfl; have cg1_2 := (blk_cell B1.out 2).trans rfl; have cg1_3 := (blk_cell B1.out 3).trans rfl; have cg1_4 := (blk_cell B1.out 4).trans rfl)
 clear cg1_0 cg1_1 cg1_2 cg1_3 cg1_4
 go_loopg [3, 9] x.f4.length (fun gg s3 s9 wr => ∃ (kk : Nat) (n : Int), kk ≤ x.f4.length ∧ x.f4.length - kk ≤ gg ∧ s9 = .int .i64 kk ∧ s3 = .int .i64 n ∧ Aside0 (Below w.heap.size w wr) ∧ Aside0 (sizeL (x.f4.drop kk) n = sizeL x.f4 1))
 case atStart => exact ⟨0, 1, Nat.zero_le _, by omega, rfl, rfl, HB, ⟨rfl⟩⟩
 case round =>
   clear HB B1 LB1
   obtain ⟨kk, n, hkk, hg, rfl, rfl, HB, N⟩ := hrel
   have hmx : x.f4.length ≤ 9223372036854775807 := (G4.out).2.1
   by_cases hlt : kk < x.f4.length
   · have hltz : (kk : Int) < (x.f4.length : Int) := by omega
     have hst := sizeL_step x.f4 kk hlt n
     obtain ⟨ead, ecs, rfl, _, eK, ecc⟩ := Kd.C_get G4.out z42 (kk : Int) (by omega) (by omega)
     have eK' := eK
     obtain ⟨eA3, ec3, eA4, ec4, rfl, el3, eg3, el4, eg4⟩ := k42_open eK'
     have ex0 := (HB.out.cell (World.block_lt_of_cell? w _ (ecc 0 _ rfl))).trans (ecc 0 _ rfl)
     have ex1 := (HB.out.cell (World.block_lt_of_cell? w _ (ecc 1 _ rfl))).trans (ecc 1 _ rfl)
     have ex2 := (HB.out.cell (World.block_lt_of_cell? w _ (ecc 2 _ rfl))).trans (ecc 2 _ rfl)
     have ex3 := (HB.out.cell (World.block_lt_of_cell? w _ (ecc 3 _ rfl))).trans (ecc 3 _ rfl)
     have ex4 := (HB.out.cell (World.block_lt_of_cell? w _ (ecc 4 _ rfl))).trans (ecc 4 _ rfl)
     rw [show (k42).sz = 5 from rfl, Nat.add_zero, Int.toNat_natCast] at ex0
     rw [show (k42).sz = 5 from rfl, Int.toNat_natCast, add_field _ _ 1 (by omega)] at ex1
     rw [show (k42).sz = 5 from rfl, Int.toNat_natCast, add_field _ _ 2 (by omega)] at ex2
     rw [show (k42).sz = 5 from rfl, Int.toNat_natCast, add_field _ _ 3 (by omega)] at ex3
     rw [show (k42).sz = 5 from rfl, Int.toNat_natCast, add_field _ _ 4 (by omega)] at ex4
     clear ecc
     try simp only [Int.toNat_natCast] at ex0 ex1 ex2 ex3 ex4 eK el3 eg3 el4 eg4
     have hih := IH.out kk hlt
     generalize Yy0 : x.f4.getD kk z42 = y at hst hih ex0 ex1 ex2 ex3 ex4 eK el3 eg3 el4 eg4
     have Yy := Aside0.mk Yy0; clear Yy0
     have eL3 := Aside0.mk el3; have eG3 := Aside0.mk eg3; clear el3 eg3
     have eL4 := Aside0.mk el4; have eG4 := Aside0.mk eg4; clear el4 eg4
     have hrec := fun (W : World) (hB : Below w.heap.size w W) => hih W _ (Kd.K_below _ hB eK)
     have HST := Aside0.mk hst
     clear hst hih
     generalize sizeE y = v at hrec HST
     go_wp2_with ((with_reducible refine gate_store (t := 42) (p := 5) rfl ?_); refine store_whole rfl rfl 42 _ _ rfl wr.heap.size _ 42 rfl (blk_new _ _) _ rfl rfl rfl (by simp [Value.oneCell']) ?_; intro w2 hb2 hg2; replace HB := Aside0.mk (below_as HB.out hg2); obtain ⟨ge, hq_⟩ : ∃ g_, g_ = wr.heap.size := ⟨_, rfl⟩; rw [← hq_] at hb2; rw [← hq_]; have BE := Aside0.mk hb2; clear hb2 hg2 hq_; have ce_0 := (blk_cell BE.out 0).trans rfl; have ce_1 := (blk_cell BE.out 1).trans rfl; have ce_2 := (blk_cell BE.out 2).trans rfl; have ce_3 := (blk_cell BE.out 3).trans rfl; have ce_4 := (blk_cell BE.out 4).trans rfl)
     with_reducible refine (hrec _ HB.out).mono ?_
     rintro e w5 ⟨rfl, hb⟩
     replace HB := Aside0.mk (below_step HB.out hb)
     clear hb
     go_wp2_with fail
     all_goals
       go_roundg (x.f4.length - (kk + 1))
       case measure => omega
       case rel =>
         refine ⟨kk + 1, _, by omega, by omega, by go_num, rfl, HB, ⟨?_⟩⟩
         have h1 := HST.out.symm.trans N.out
         first | exact h1 | (rw [Int.max_eq_right (by omega)] at h1; exact h1) | (rw [Int.max_eq_left (by omega)] at h1; exact h1)
   · have hltz : ¬ (kk : Int) < (x.f4.length : Int) := by omega
     obtain rfl : kk = x.f4.length := by omega
     have hn := N.out
     rw [List.drop_length, sizeL] at hn
     have HN := Aside0.mk hn; clear hn
     go_wp2_with fail
     go_ret
     exact ⟨by rw [HF.out, ← HN.out]; rfl, HB.out⟩
theorem tsize_says (n : Nat) : ∀ x : S42, SizeOf.sizeOf x ≤ n → tsizeSays x := by
 induction n with
 | zero => intro x h; exfalso; cases x; simp only [S42.mk.sizeOf_spec] at h; omega
 | succ n ih => intro x h; exact tsize_step x (fun i hi => ih _ (by have := sizeOf_kid x i hi; omega))
theorem tsize_calls (x : S42) (w : World) (cs : List Value) (hK : k42.K w x cs) : Calls Tryz.prog 27 #[.agg cs.toArray] w fun e w' => e = .returned (.int .i64 (sizeE x)) ∧ Below w.heap.size w w' := tsize_says _ x (Nat.le_refl _) w cs hK
def tdepthSays (x : S42) : Prop := ∀ (w : World) (cs : List Value), k42.K w x cs → Calls Tryz.prog 28 #[.agg cs.toArray] w fun e w' => e = .returned (.int .i64 (depthE x)) ∧ Below w.heap.size w w'
set_option maxHeartbeats 4000000 in
theorem tdepth_step (x : S42) (ih : ∀ i, i < x.f4.length → tdepthSays (x.f4.getD i z42)) : tdepthSays x := by
 intro w csx hK
 obtain ⟨A3, c3, A4, c4, rfl, l3, g3, l4, g4⟩ := k42_open hK
 clear hK
 have L3 := Aside0.mk l3; have G3 := Aside0.mk g3; clear l3 g3
 have L4 := Aside0.mk l4; have G4 := Aside0.mk g4; clear l4 g4
 have HB := Aside0.mk (Below.refl w.heap.size w)
 have IH := Aside0.mk ih
 clear ih
 have HF := Aside0.mk (depthE_eq x)
 have hu := Tryz.underlying42
 go_enter Tryz.func28, Tryz.ntmps28
 go_wp2_with ((with_reducible refine gate_dst (N := 1) rfl ?_); refine box_event ?hg (N := 1) ?hd (cs := #[.int .i64 x.f0, .string x.f1, .int .i64 x.f2, .slice A3 (x.f3).length c3, .slice A4 (x.f4).length c4]) (t := 42) ?hr ?_; (case hd => rfl); (case hg => rfl); (case hr => first | (go_simp; done) | (go_simp; rfl)); intro g1 hg_ w_ hbox hb; have B1 := Aside0.mk hbox; have LB1 := Aside0.mk ((by rw [hg_]; exact below_size HB.out) : w.heap.size ≤ g1); replace HB := Aside0.mk (below_step HB.out hb); clear hb hbox hg_; have cg1_0 := (blk_cell B1.out 0).trans rfl; have cg1_1 := (blk_cell B1.out 1).trans rfl; have cg1_2 := (blk_cell B1.out 2).trans rfl; have cg1_3 := (blk_cell B1.out 3).trans rfl; have cg1_4 := (blk_cell B1.out 4).trans rfl)
 clear cg1_0 cg1_1 cg1_2 cg1_3 cg1_4
 go_loopg [3, 9] x.f4.length (fun gg s3 s9 wr => ∃ (kk : Nat) (n : Int), kk ≤ x.f4.length ∧ x.f4.length - kk ≤ gg ∧ s9 = .int .i64 kk ∧ s3 = .int .i64 n ∧ Aside0 (Below w.heap.size w wr) ∧ Aside0 (depthL (x.f4.drop kk) n = depthL x.f4 0))
 case atStart => exact ⟨0, 0, Nat.zero_le _, by omega, rfl, rfl, HB, ⟨rfl⟩⟩
 case round =>
   clear HB B1 LB1
   obtain ⟨kk, n, hkk, hg, rfl, rfl, HB, N⟩ := hrel
   have hmx : x.f4.length ≤ 9223372036854775807 := (G4.out).2.1
   by_cases hlt : kk < x.f4.length
   · have hltz : (kk : Int) < (x.f4.length : Int) := by omega
     have hst := depthL_step x.f4 kk hlt n
     obtain ⟨ead, ecs, rfl, _, eK, ecc⟩ := Kd.C_get G4.out z42 (kk : Int) (by omega) (by omega)
     have eK' := eK
     obtain ⟨eA3, ec3, eA4, ec4, rfl, el3, eg3, el4, eg4⟩ := k42_open eK'
     have ex0 := (HB.out.cell (World.block_lt_of_cell? w _ (ecc 0 _ rfl))).trans (ecc 0 _ rfl)
     have ex1 := (HB.out.cell (World.block_lt_of_cell? w _ (ecc 1 _ rfl))).trans (ecc 1 _ rfl)
     have ex2 := (HB.out.cell (World.block_lt_of_cell? w _ (ecc 2 _ rfl))).trans (ecc 2 _ rfl)
     have ex3 := (HB.out.cell (World.block_lt_of_cell? w _ (ecc 3 _ rfl))).trans (ecc 3 _ rfl)
     have ex4 := (HB.out.cell (World.block_lt_of_cell? w _ (ecc 4 _ rfl))).trans (ecc 4 _ rfl)
     rw [show (k42).sz = 5 from rfl, Nat.add_zero, Int.toNat_natCast] at ex0
     rw [show (k42).sz = 5 from rfl, Int.toNat_natCast, add_field _ _ 1 (by omega)] at ex1
     rw [show (k42).sz = 5 from rfl, Int.toNat_natCast, add_field _ _ 2 (by omega)] at ex2
     rw [show (k42).sz = 5 from rfl, Int.toNat_natCast, add_field _ _ 3 (by omega)] at ex3
     rw [show (k42).sz = 5 from rfl, Int.toNat_natCast, add_field _ _ 4 (by omega)] at ex4
     clear ecc
     try simp only [Int.toNat_natCast] at ex0 ex1 ex2 ex3 ex4 eK el3 eg3 el4 eg4
     have hih := IH.out kk hlt
     generalize Yy0 : x.f4.getD kk z42 = y at hst hih ex0 ex1 ex2 ex3 ex4 eK el3 eg3 el4 eg4
     have Yy := Aside0.mk Yy0; clear Yy0
     have eL3 := Aside0.mk el3; have eG3 := Aside0.mk eg3; clear el3 eg3
     have eL4 := Aside0.mk el4; have eG4 := Aside0.mk eg4; clear el4 eg4
     have hrec := fun (W : World) (hB : Below w.heap.size w W) => hih W _ (Kd.K_below _ hB eK)
     have HST := Aside0.mk hst
     clear hst hih
     generalize depthE y = v at hrec HST
     go_wp2_with ((with_reducible refine gate_store (t := 42) (p := 5) rfl ?_); refine store_whole rfl rfl 42 _ _ rfl wr.heap.size _ 42 rfl (blk_new _ _) _ rfl rfl rfl (by simp [Value.oneCell']) ?_; intro w2 hb2 hg2; replace HB := Aside0.mk (below_as HB.out hg2); obtain ⟨ge, hq_⟩ : ∃ g_, g_ = wr.heap.size := ⟨_, rfl⟩; rw [← hq_] at hb2; rw [← hq_]; have BE := Aside0.mk hb2; clear hb2 hg2 hq_; have ce_0 := (blk_cell BE.out 0).trans rfl; have ce_1 := (blk_cell BE.out 1).trans rfl; have ce_2 := (blk_cell BE.out 2).trans rfl; have ce_3 := (blk_cell BE.out 3).trans rfl; have ce_4 := (blk_cell BE.out 4).trans rfl)
     with_reducible refine (hrec _ HB.out).mono ?_
     rintro e w5 ⟨rfl, hb⟩
     replace HB := Aside0.mk (below_step HB.out hb)
     clear hb
     go_wp2_with fail
     all_goals
       go_roundg (x.f4.length - (kk + 1))
       case measure => omega
       case rel =>
         refine ⟨kk + 1, _, by omega, by omega, by go_num, rfl, HB, ⟨?_⟩⟩
         have h1 := HST.out.symm.trans N.out
         first | exact h1 | (rw [Int.max_eq_right (by omega)] at h1; exact h1) | (rw [Int.max_eq_left (by omega)] at h1; exact h1)
   · have hltz : ¬ (kk : Int) < (x.f4.length : Int) := by omega
     obtain rfl : kk = x.f4.length := by omega
     have hn := N.out
     rw [List.drop_length, depthL] at hn
     have HN := Aside0.mk hn; clear hn
     go_wp2_with fail
     go_ret
     exact ⟨by rw [HF.out, ← HN.out]; rfl, HB.out⟩
theorem tdepth_says (n : Nat) : ∀ x : S42, SizeOf.sizeOf x ≤ n → tdepthSays x := by
 induction n with
 | zero => intro x h; exfalso; cases x; simp only [S42.mk.sizeOf_spec] at h; omega
 | succ n ih => intro x h; exact tdepth_step x (fun i hi => ih _ (by have := sizeOf_kid x i hi; omega))
theorem tdepth_calls (x : S42) (w : World) (cs : List Value) (hK : k42.K w x cs) : Calls Tryz.prog 28 #[.agg cs.toArray] w fun e w' => e = .returned (.int .i64 (depthE x)) ∧ Below w.heap.size w w' := tdepth_says _ x (Nat.le_refl _) w cs hK
structure Turned (S : Nat → Prop) (W w' : World) : Prop where
 os : w'.os = W.os
 tape : w'.tape = W.tape
 output : w'.output = W.output
 size : W.heap.size ≤ w'.heap.size
 block : ∀ k, k < W.heap.size → ¬ S k → w'.heap[k]? = W.heap[k]?
theorem Turned.refl (S : Nat → Prop) (W : World) : Turned S W W := ⟨rfl, rfl, rfl, Nat.le_refl _, fun _ _ _ => rfl⟩
theorem Turned.trans {S : Nat → Prop} {a b c : World} (h : Turned S a b) (k : Turned S b c) : Turned S a c :=
 ⟨k.os.trans h.os, k.tape.trans h.tape, k.output.trans h.output, Nat.le_trans h.size k.size, fun i hi hs => (k.block i (Nat.lt_of_lt_of_le hi h.size) hs).trans (h.block i hi hs)⟩
theorem Turned.of_below {S : Nat → Prop} {W w1 : World} (h : Below W.heap.size W w1) : Turned S W w1 := ⟨h.os, h.tape, h.output, h.size, fun k hk _ => h.block k hk⟩
theorem Turned.of_grown {S : Nat → Prop} {W w1 : World} {row : Option Nat} (h : W.grownBy w1 row) (hr : ∀ k, row = some k → S k) : Turned S W w1 :=
 ⟨h.os, h.tape, h.output, h.size, fun k hk hs => h.block k hk (fun e => hs (hr k e.symm))⟩
theorem Turned.step {S : Nat → Prop} {a b c : World} (h : Turned S a b) (k : Below b.heap.size b c) : Turned S a c := h.trans (Turned.of_below k)
theorem Turned.set {S : Nat → Prop} {a b : World} (h : Turned S a b) {p : Addr} (hp : S p.block) (u : Value) : Turned S a (b.setCell p u) :=
 ⟨h.os, h.tape, h.output, by have := h.size; simpa using this, fun k hk hs => (Below.heap_setCell b p u k (fun e => hs (e ▸ hp))).trans (h.block k hk hs)⟩
theorem Turned.drew {S : Nat → Prop} {a b : World} (h : Turned S a b) : Turned S a b.drew := ⟨h.os, h.tape, h.output, h.size, h.block⟩
theorem Turned.blk {S : Nat → Prop} {W w1 : World} {g : Nat} {o : Obj} (h : Turned S W w1) (hb : W.heap[g]? = some o) (hs : ¬ S g) : w1.heap[g]? = some o := (h.block g (blk_lt hb) hs).trans hb
theorem Turned.below {S : Nat → Prop} {B : Nat} {w0 W w1 : World} (h : Turned S W w1) (hb : Below B w0 W) (hB : B ≤ W.heap.size) (hs : ∀ k, S k → B ≤ k) : Below B w0 w1 :=
 hb.trans ⟨h.os, h.tape, h.output, h.size, fun k hk => h.block k (by omega) (fun s => by have := hs k s; omega)⟩
theorem turned_as {S : Nat → Prop} {w W w2 : World} {o' : Obj} (h : Turned S w W) (hg : (W.alloc o').grownBy w2 (some W.heap.size)) : Turned S w w2 := by
 have h1 := h.size
 have h2 : Turned S w (W.alloc o') := h.step (below_alloc (Below.refl _ _) _)
 refine ⟨hg.os.trans h2.os, hg.tape.trans h2.tape, hg.output.trans h2.output, Nat.le_trans h2.size hg.size, fun k hk hs => (hg.block k (by simp; omega) (by intro e; injection e with e; omega)).trans (h2.block k hk hs)⟩
def CellI (w : World) (g : Nat) (v : Int) : Prop := w.heap[g]? = some (.cells #[.int .i64 v] 3 (0, 0))
def acc (p : Int × Int) (e : S42) : Int × Int := (wrap64 (p.1 + sizeE e), max p.2 (depthE e))
def two (ga gb : Nat) : Nat → Prop := fun k => k = ga ∨ k = gb
theorem cellI_set {w : World} {g : Nat} {v : Int} (h : CellI w g v) (u : Int) : CellI (w.setCell ⟨g, 0, none⟩ (.int .i64 u)) g u := blk_put (cs := #[.int .i64 v]) h 0 (.int .i64 u) rfl
theorem cellI_far {w : World} {g : Nat} {v : Int} (h : CellI w g v) {p : Addr} (hp : g ≠ p.block) (u : Value) : CellI (w.setCell p u) g v := blk_far h hp u
theorem wrapEq (x : Int) : IntKind.i64.wrap x = wrap64 x := by rw [IntKind.wrap_i64]; first | rfl | (unfold wrap64; rfl) | (unfold wrap64; omega)
set_option maxHeartbeats 8000000 in
theorem right1_calls (x : S42) (w0 w : World) (csx : List Value) (hK : k42.K w0 x csx) (hw : Below w0.heap.size w0 w) (ga gb : Nat) (a b : Int) (hne : ga ≠ gb) (hga : w0.heap.size ≤ ga) (hgb : w0.heap.size ≤ gb) (ha : CellI w ga a) (hb : CellI w gb b) :
   Calls Tryz.prog 26 #[.agg csx.toArray, .pointer (some ⟨ga, 0, none⟩), .pointer (some ⟨gb, 0, none⟩)] w fun e w' => e = .returned (.tuple #[]) ∧ CellI w' ga (acc (a, b) x).1 ∧ CellI w' gb (acc (a, b) x).2 ∧ Turned (two ga gb) w w' := by
 have hs := fun (W : World) (hB : Below w0.heap.size w0 W) => tsize_calls x W csx (Kd.K_below _ hB hK)
 have hd := fun (W : World) (hT : Below w0.heap.size w0 W) => tdepth_calls x W csx (Kd.K_below _ hT hK)
 obtain ⟨A3, c3, A4, c4, rfl, l3, g3, l4, g4⟩ := k42_open hK
 clear hK l3 g3 l4 g4
 have HT := Aside0.mk (Turned.refl (two ga gb) w)
 have HB := Aside0.mk hw
 have HA := Aside0.mk ha; have HBB := Aside0.mk hb
 have hga1 : ga < w.heap.size := blk_lt ha
 have hgb1 : gb < w.heap.size := blk_lt hb
 clear ha hb hw
 have hu := Tryz.underlying42
 unfold acc
 generalize sizeE x = s at hs ⊢
 generalize depthE x = d at hd ⊢
 go_enter Tryz.func26, Tryz.ntmps26
 go_wp2_with ((with_reducible refine gate_dst (N := 3) rfl ?_); refine box_event ?hg (N := 3) ?hd (cs := #[.int .i64 x.f0, .string x.f1, .int .i64 x.f2, .slice A3 (x.f3).length c3, .slice A4 (x.f4).length c4]) (t := 42) ?hr ?_; (case hd => rfl); (case hg => rfl); (case hr => first | (go_simp; done) | (go_simp; rfl)); intro g3 hg_ w_ hbox hb; have B3 := Aside0.mk hbox; have LB3 := Aside0.mk ((by rw [hg_]; exact below_size HB.out) : w0.heap.size ≤ g3); replace HA := Aside0.mk (show CellI _ ga a from below_blk HA.out hb); replace HBB := Aside0.mk (show CellI _ gb b from below_blk HBB.out hb); replace HT := Aside0.mk (HT.out.step hb); replace HB := Aside0.mk (below_step HB.out hb); have h3 : w.heap.size ≤ g3 := Nat.le_of_eq hg_.symm; clear hb hbox hg_)
 have ca := (blk_cell HA.out 0).trans rfl
 have fa := blk_frozen HA.out 0
 have cb := (blk_cell HBB.out 0).trans rfl
 have fb := blk_frozen HBB.out 0
 have c3_0 := (blk_cell B3.out 0).trans rfl
 have c3_1 := (blk_cell B3.out 1).trans rfl
 have c3_2 := (blk_cell B3.out 2).trans rfl
 have c3_3 := (blk_cell B3.out 3).trans rfl
 have c3_4 := (blk_cell B3.out 4).trans rfl
 go_region_with (go_at_call 27; refine (hs _ (below_drew1 HB.out)).mono ?_; rintro e w5 ⟨rfl, hb5⟩; have HA5 := Aside0.mk (show CellI w5 ga a from below_blk (blk_drew HA.out) hb5); have HBB5 := Aside0.mk (show CellI w5 gb b from below_blk (blk_drew HBB.out) hb5); have B35 := Aside0.mk (below_blk (blk_drew B3.out) hb5); have HT5 := Aside0.mk ((HT.out.drew).step hb5); have HB5 := Aside0.mk (below_step (below_drew1 HB.out) hb5); clear hb5; have ca5 := (blk_cell HA5.out 0).trans rfl; have fa5 := blk_frozen HA5.out 0; have cb5 := (blk_cell HBB5.out 0).trans rfl; have fb5 := blk_frozen HBB5.out 0; have x50 := (blk_cell B35.out 0).trans rfl; have x51 := (blk_cell B35.out 1).trans rfl; have x52 := (blk_cell B35.out 2).trans rfl; have x53 := (blk_cell B35.out 3).trans rfl; have x54 := (blk_cell B35.out 4).trans rfl)
 all_goals
   go_wp2_with fail
   have HA6 := Aside0.mk (show CellI _ ga _ from cellI_set HA5.out (IntKind.i64.wrap (a + s)))
   have HBB6 := Aside0.mk (cellI_far HBB5.out (p := ⟨ga, 0, none⟩) (fun e => hne e.symm) (.int .i64 (IntKind.i64.wrap (a + s))))
   have B36 := Aside0.mk (blk_far B35.out (p := ⟨ga, 0, none⟩) (show g3 ≠ ga by omega) (.int .i64 (IntKind.i64.wrap (a + s))))
   have HT6 := Aside0.mk (HT5.out.set (p := ⟨ga, 0, none⟩) (.inl rfl) (.int .i64 (IntKind.i64.wrap (a + s))))
   have HB6 := Aside0.mk (HB5.out.setCell (p := ⟨ga, 0, none⟩) hga (.int .i64 (IntKind.i64.wrap (a + s))))
   generalize w5.setCell ⟨ga, 0, none⟩ (.int .i64 (IntKind.i64.wrap (a + s))) = w6 at HA6 HBB6 B36 HT6 HB6 ⊢
   rw [wrapEq] at HA6
   clear ca fa cb fb c3_0 c3_1 c3_2 c3_3 c3_4
   clear ca5 fa5 cb5 fb5 x50 x51 x52 x53 x54
   clear HA HBB B3 HT HB HA5 HBB5 B35 HT5 HB5
   have HA := HA6; have HBB := HBB6; have B3 := B36; have HT := HT6; have HB := HB6
   clear HA6 HBB6 B36 HT6 HB6
   have ca := (blk_cell HA.out 0).trans rfl
   have fa := blk_frozen HA.out 0
   have cb := (blk_cell HBB.out 0).trans rfl
   have fb := blk_frozen HBB.out 0
   have c3_0 := (blk_cell B3.out 0).trans rfl
   have c3_1 := (blk_cell B3.out 1).trans rfl
   have c3_2 := (blk_cell B3.out 2).trans rfl
   have c3_3 := (blk_cell B3.out 3).trans rfl
   have c3_4 := (blk_cell B3.out 4).trans rfl
   go_region_with (go_at_call 28; refine (hd _ (below_drew1 HB.out)).mono ?_; rintro e w5 ⟨rfl, hb5⟩; have HA5 := Aside0.mk (show CellI w5 ga (wrap64 (a + s)) from below_blk (blk_drew HA.out) hb5); have HBB5 := Aside0.mk (show CellI w5 gb b from below_blk (blk_drew HBB.out) hb5); have B35 := Aside0.mk (below_blk (blk_drew B3.out) hb5); have HT5 := Aside0.mk ((HT.out.drew).step hb5); have HB5 := Aside0.mk (below_step (below_drew1 HB.out) hb5); clear hb5; have ca5 := (blk_cell HA5.out 0).trans rfl; have fa5 := blk_frozen HA5.out 0; have cb5 := (blk_cell HBB5.out 0).trans rfl; have fb5 := blk_frozen HBB5.out 0; have x50 := (blk_cell B35.out 0).trans rfl; have x51 := (blk_cell B35.out 1).trans rfl; have x52 := (blk_cell B35.out 2).trans rfl; have x53 := (blk_cell B35.out 3).trans rfl; have x54 := (blk_cell B35.out 4).trans rfl)
   all_goals
     go_wp2_with fail
     all_goals
       have hA9 := fun (v : Int) => cellI_far HA5.out (p := ⟨gb, 0, none⟩) hne (.int .i64 v)
       have hB9 := fun (v : Int) => cellI_set HBB5.out v
       have hT9 := fun (v : Int) => HT5.out.set (p := ⟨gb, 0, none⟩) (.inr rfl) (.int .i64 v)
       go_end0
       refine ⟨rfl, hA9 _, ?_, hT9 _⟩
       first | (rw [Int.max_eq_right (by omega)]; exact hB9 _) | (rw [Int.max_eq_left (by omega)]; exact hB9 _)
end Go.Proofs.YtggfnbnochmkdaaGreat
