/- The laws' node of one equation; that a name that is there is there. -/
import Derived.Test.YtggfnbnochmkdaaGreatSn
namespace Go.Proofs.YtggfnbnochmkdaaGreat
open Go Go.RowKit Go.Lib Go.Proofs.YtggfnbnochmkdaaGreatW.PrintWords Go.Proofs.YtggfnbnochmkdaaGreat.PScope
set_option maxRecDepth 100000
set_option linter.unusedSimpArgs false
set_option linter.unusedVariables false
def tx : ByteArray := ⟨#[120]⟩
def ty : ByteArray := ⟨#[121]⟩
def tz : ByteArray := ⟨#[122]⟩
def tf : ByteArray := ⟨#[102]⟩
def oneN (e : S42) : S35 := ⟨tf, [], [tx], [ty], [⟨⟨[ty], e⟩, []⟩]⟩
theorem one_ok : checkR false [] [oneN ⟨4, tx, 0, [], []⟩] = (0, 0, 0) := by decide +kernel
theorem one_no : checkR false [] [oneN ⟨4, tz, 0, [], []⟩] = (4, 0, 0) := by decide +kernel
theorem lit_one {α : Type} {d : Kd α} {W : World} {g : Nat} {e : TypeId} {cs : List Value} {x : α} (h : W.heap[g]? = some (.cells cs.toArray e (0, 0))) (hK : d.K W x cs) : d.C W (some ⟨g, 0, none⟩) 1 [x] := by
 refine ⟨rfl, by decide, fun _ => ⟨_, rfl, fun j p hj => ?_⟩⟩
 cases j with
 | succ j => simp at hj
 | zero =>
   simp at hj
   subst hj
   refine ⟨cs, d.K_len hK, hK, fun i u hu => ?_⟩
   rw [Nat.zero_mul, Nat.zero_add, add_plain, blk_cell h]
   simpa using hu
theorem blk_at {w : World} {o o' : Obj} {g : Nat} (h : w.heap[g]? = some o) : (w.alloc o').heap[g]? = some o := blk_alloc h o'
theorem blk_top {w : World} {o : Obj} {g : Nat} (h : g = w.heap.size) : (w.alloc o).heap[g]? = some o := by rw [h]; exact blk_new w o
theorem below_al {a b : World} (h : Below a.heap.size a b) {o : Obj} : Below a.heap.size a (b.alloc o) := below_alloc h o
theorem blk_put_far {W w2 : World} {g g' : Nat} {o : Obj} (h : W.heap[g]? = some o) (hg : W.grownBy w2 (some g')) (hne : g ≠ g') : w2.heap[g]? = some o := (hg.block g (blk_lt h) (by intro e; injection e with e; exact hne e)).trans h
def NodeOnePost (e : S42) (w : World) (en : Ending) (w' : World) : Prop :=
 ∃ g, en = .returned (.agg #[.slice none 0 0, .slice (some ⟨g, 0, none⟩) 1 1]) ∧ k35.C w' (some ⟨g, 0, none⟩) 1 [oneN e] ∧ Below w.heap.size w w'
set_option maxHeartbeats 8000000 in
theorem lone_calls (e : S42) (w : World) (csx : List Value) (hK : k42.K w e csx) : Calls Tryz.prog 10 #[.agg csx.toArray] w (NodeOnePost e w) := by
 obtain ⟨A3, c3, A4, c4, rfl, l3, g3, l4, g4⟩ := k42_open hK
 have L3 := Aside0.mk l3; have G3 := Aside0.mk g3; clear l3 g3
 have L4 := Aside0.mk l4; have G4 := Aside0.mk g4; clear l4 g4
 clear hK
 have HB := Aside0.mk (Below.refl w.heap.size w)
 have HUP := Aside0.mk Tryz.underlying25
 have hu0 := Tryz.underlying42
 have hu1 := Tryz.underlying44
 have hu2 := Tryz.underlying47
 have hu3 := Tryz.underlying35
 have hu4 := Tryz.underlying25
 go_enter Tryz.func10, Tryz.ntmps10
 go_wp2_with (first | ((with_reducible refine gate_dst (N := 1) rfl ?_); refine box_event ?hg (N := 1) ?hd (cs := #[.int .i64 e.f0, .string e.f1, .int .i64 e.f2, .slice A3 (e.f3).length c3, .slice A4 (e.f4).length c4]) (t := 42) ?hr ?_; (case hd => rfl); (case hg => rfl); (case hr => first | (go_simp; done) | (go_simp; rfl)); intro g1 hg_ w3 hbox hb; have B1 := Aside0.mk hbox; have LB1 := Aside0.mk ((by rw [hg_]; exact below_size HB.out) : w.heap.size ≤ g1); replace HB := Aside0.mk (below_step HB.out hb); clear hb hbox hg_; have c1_0 := fun (a b c d : Obj) => (blk_cell (blk_alloc (blk_alloc (blk_alloc (blk_alloc B1.out a) b) c) d) 0).trans rfl; have c1_1 := fun (a b c d : Obj) => (blk_cell (blk_alloc (blk_alloc (blk_alloc (blk_alloc B1.out a) b) c) d) 1).trans rfl; have c1_2 := fun (a b c d : Obj) => (blk_cell (blk_alloc (blk_alloc (blk_alloc (blk_alloc B1.out a) b) c) d) 2).trans rfl; have c1_3 := fun (a b c d : Obj) => (blk_cell (blk_alloc (blk_alloc (blk_alloc (blk_alloc B1.out a) b) c) d) 3).trans rfl; have c1_4 := fun (a b c d : Obj) => (blk_cell (blk_alloc (blk_alloc (blk_alloc (blk_alloc B1.out a) b) c) d) 4).trans rfl) | ((with_reducible refine gate_store (t := 25) (p := 2) rfl ?_); refine store_whole rfl rfl 25 _ _ rfl w3.heap.size #[.slice none 0 0, .slice none 0 0] 25 rfl (by repeat (first | exact blk_new _ _ | refine blk_at ?_)) _ rfl rfl rfl (by simp [Value.oneCell']) ?_; intro wf hbf hgf; have HBF := Aside0.mk hbf; have HGF := Aside0.mk hgf; clear hbf hgf))
 have x1 : wf.heap[w3.heap.size + 1]? = some (.cells #[.string tx] 9 (0, 0)) := blk_put_far (blk_at (blk_at (blk_at (blk_at (blk_top (by simp)))))) HGF.out (by omega)
 have x2 : wf.heap[w3.heap.size + 1 + 1]? = some (.cells #[.string ty] 9 (0, 0)) := blk_put_far (blk_at (blk_at (blk_at (blk_top (by simp))))) HGF.out (by omega)
 have x3 : wf.heap[w3.heap.size + 1 + 1 + 1]? = some (.cells #[.string ty] 9 (0, 0)) := blk_put_far (blk_at (blk_at (blk_top (by simp)))) HGF.out (by omega)
 have x4 : wf.heap[w3.heap.size + 1 + 1 + 1 + 1]? = some (.cells #[.slice (some ⟨w3.heap.size + 1 + 1 + 1, 0, none⟩) 1 1, .int .i64 e.f0, .string e.f1, .int .i64 e.f2, .slice A3 (e.f3).length c3, .slice A4 (e.f4).length c4, .slice none 0 0] 47 (0, 0)) := blk_put_far (blk_at (blk_top (by simp))) HGF.out (by omega)
 have x5 : wf.heap[w3.heap.size + 1 + 1 + 1 + 1 + 1]? = some (.cells #[.string tf, .slice none 0 0, .slice (some ⟨w3.heap.size + 1, 0, none⟩) 1 1, .slice (some ⟨w3.heap.size + 1 + 1, 0, none⟩) 1 1, .slice (some ⟨w3.heap.size + 1 + 1 + 1 + 1, 0, none⟩) 1 1] 35 (0, 0)) := blk_put_far (blk_top (by simp)) HGF.out (by omega)
 have HBW : Below w.heap.size w wf := (below_al (below_al (below_al (below_al (below_al (below_al HB.out)))))).grown HGF.out (below_al (below_al (below_al (below_al (below_al (below_al HB.out)))))).size (fun k hk => by cases hk; exact HB.out.size)
 have hKi := k47_mk wf (⟨⟨[ty], e⟩, []⟩ : S47) (A0 := some ⟨w3.heap.size + 1 + 1 + 1, 0, none⟩) (c0 := 1) (Nat.le_refl 1) (lit_strs [ty] x3 rfl (by decide)) L3.out (Kd.C_below G3.out HBW) L4.out (Kd.C_below G4.out HBW) (A6 := none) (c6 := 0) (Nat.le_refl 0) (Kd.C_nil _ _)
 have hKn := k35_mk wf (oneN e) (A1 := none) (c1 := 0) (Nat.le_refl 0) (Kd.C_nil _ _) (A2 := some ⟨w3.heap.size + 1, 0, none⟩) (c2 := 1) (Nat.le_refl 1) (lit_strs [tx] x1 rfl (by decide)) (A3 := some ⟨w3.heap.size + 1 + 1, 0, none⟩) (c3 := 1) (Nat.le_refl 1) (lit_strs [ty] x2 rfl (by decide)) (A4 := some ⟨w3.heap.size + 1 + 1 + 1 + 1, 0, none⟩) (c4 := 1) (Nat.le_refl 1) (lit_one x4 hKi)
 have hC := lit_one x5 hKn
 refine bodyPost_ret (results_c1 rfl _ _ w3.heap.size 25 _ (0, 0) _ rfl HBF.out HUP.out rfl rfl) rfl ?_
 exact ⟨_, rfl, hC, HBW⟩
set_option maxHeartbeats 8000000 in
theorem lives_calls (w : World) : Calls Tryz.prog 5 #[] w fun e w' => e = .returned (.bool true) ∧ Below w.heap.size w w' := by
 have HB := Aside0.mk (Below.refl w.heap.size w)
 have o1 : ∀ W, Calls Tryz.prog 10 #[.agg #[.int .i64 4, .string ⟨#[120]⟩, .int .i64 0, .slice none 0 0, .slice none 0 0]] W (NodeOnePost (⟨4, tx, 0, [], []⟩ : S42) W) := fun W => lone_calls (⟨4, tx, 0, [], []⟩ : S42) W _ (k42_mk W (⟨4, tx, 0, [], []⟩ : S42) (A3 := none) (c3 := 0) (Nat.le_refl 0) (Kd.C_nil _ _) (A4 := none) (c4 := 0) (Nat.le_refl 0) (Kd.C_nil _ _))
 have o2 : ∀ W, Calls Tryz.prog 10 #[.agg #[.int .i64 4, .string ⟨#[122]⟩, .int .i64 0, .slice none 0 0, .slice none 0 0]] W (NodeOnePost (⟨4, tz, 0, [], []⟩ : S42) W) := fun W => lone_calls (⟨4, tz, 0, [], []⟩ : S42) W _ (k42_mk W (⟨4, tz, 0, [], []⟩ : S42) (A3 := none) (c3 := 0) (Nat.le_refl 0) (Kd.C_nil _ _) (A4 := none) (c4 := 0) (Nat.le_refl 0) (Kd.C_nil _ _))
 have o0 : ∀ W, Calls Tryz.prog 10 #[.agg #[.int .i64 0, .string ⟨#[]⟩, .int .i64 0, .slice none 0 0, .slice none 0 0]] W (NodeOnePost (⟨0, ⟨#[]⟩, 0, [], []⟩ : S42) W) := fun W => lone_calls (⟨0, ⟨#[]⟩, 0, [], []⟩ : S42) W _ (k42_mk W (⟨0, ⟨#[]⟩, 0, [], []⟩ : S42) (A3 := none) (c3 := 0) (Nat.le_refl 0) (Kd.C_nil _ _) (A4 := none) (c4 := 0) (Nat.le_refl 0) (Kd.C_nil _ _))
 have k1 : ∀ (W : World) (g : Nat), k35.C W (some ⟨g, 0, none⟩) 1 [oneN (⟨4, tx, 0, [], []⟩ : S42)] → Calls Tryz.prog 6 #[.agg #[.slice none 0 0, .slice (some ⟨g, 0, none⟩) 1 1], .bool false] W fun e w' => e = .returned (.agg #[.int .i64 0, .int .i64 0, .int .i64 0]) ∧ Below W.heap.size W w' := fun W g h => by have hq := check_calls false [] [oneN (⟨4, tx, 0, [], []⟩ : S42)] none (some ⟨g, 0, none⟩) 0 1 W (Kd.C_nil _ _) h; rw [one_ok] at hq; exact hq
 have k2 : ∀ (W : World) (g : Nat), k35.C W (some ⟨g, 0, none⟩) 1 [oneN (⟨4, tz, 0, [], []⟩ : S42)] → Calls Tryz.prog 6 #[.agg #[.slice none 0 0, .slice (some ⟨g, 0, none⟩) 1 1], .bool false] W fun e w' => e = .returned (.agg #[.int .i64 4, .int .i64 0, .int .i64 0]) ∧ Below W.heap.size W w' := fun W g h => by have hq := check_calls false [] [oneN (⟨4, tz, 0, [], []⟩ : S42)] none (some ⟨g, 0, none⟩) 0 1 W (Kd.C_nil _ _) h; rw [one_no] at hq; exact hq
 have hva : ∀ (W : World) (csy : List Value), k35.K W (oneN (⟨0, ⟨#[]⟩, 0, [], []⟩ : S42)) csy → Calls Tryz.prog 11 #[.agg csy.toArray] W (StrsPost (varsL (oneN (⟨0, ⟨#[]⟩, 0, [], []⟩ : S42))) W) := fun W csy hK => vars_calls (oneN (⟨0, ⟨#[]⟩, 0, [], []⟩ : S42)) W csy hK (by decide)
 have hlen : (varsL (oneN (⟨0, ⟨#[]⟩, 0, [], []⟩ : S42))).length = 2 := by decide
 have hfd : ∀ (W : World) (g : Nat), (Instr.field 25 (.agg #[.slice none 0 0, .slice (some ⟨g, 0, none⟩) 1 1]) 1).run Tryz.prog W = .ok (.slice (some ⟨g, 0, none⟩) 1 1) W := fun _ _ => by kernel_rfl
 have hu1 := Tryz.underlying29
 have hu2 := Tryz.underlying25
 have hu3 := Tryz.underlying35
 have hu4 := Tryz.underlying42
 go_enter Tryz.func5, Tryz.ntmps5
 go_wp2_with fail
 refine (o1 _).mono ?_
 rintro e w3 ⟨g, rfl, hC, hb⟩
 have HC := Aside0.mk hC
 replace HB := Aside0.mk (below_step HB.out hb)
 clear hC hb
 go_wp2_with fail
 refine (k1 _ g HC.out).mono ?_
 rintro e w4 ⟨rfl, hb⟩
 replace HB := Aside0.mk (below_step HB.out hb)
 clear hb HC k1 o1
 go_wp2_with ((with_reducible refine gate_store (t := 29) (p := 1) rfl ?_); refine store_whole rfl rfl 29 _ _ rfl w4.heap.size _ 29 rfl (blk_new _ _) _ rfl rfl rfl (by simp [Value.oneCell']) ?_; intro w2 hb2 hg2; replace HB := Aside0.mk (below_as HB.out hg2); obtain ⟨g1, hq_⟩ : ∃ g_, g_ = w4.heap.size := ⟨_, rfl⟩; rw [← hq_] at hb2; rw [← hq_]; have B1 := Aside0.mk hb2; clear hb2 hg2 hq_)
 refine (o2 _).mono ?_
 rintro e w6 ⟨g, rfl, hC, hb⟩
 have HC := Aside0.mk hC
 replace B1 := Aside0.mk (below_blk B1.out hb)
 replace HB := Aside0.mk (below_step HB.out hb)
 clear hC hb
 go_wp2_with fail
 refine (k2 _ g HC.out).mono ?_
 rintro e w7 ⟨rfl, hb⟩
 replace B1 := Aside0.mk (below_blk B1.out hb)
 replace HB := Aside0.mk (below_step HB.out hb)
 clear hb HC k2 o2
 go_wp2_with ((with_reducible refine gate_store (t := 29) (p := 2) rfl ?_); refine store_whole rfl rfl 29 _ _ rfl w7.heap.size _ 29 rfl (blk_new _ _) _ rfl rfl rfl (by simp [Value.oneCell']) ?_; intro w2 hb2 hg2; replace B1 := Aside0.mk (blk_as B1.out hg2); replace HB := Aside0.mk (below_as HB.out hg2); obtain ⟨g2, hq_⟩ : ∃ g_, g_ = w7.heap.size := ⟨_, rfl⟩; rw [← hq_] at hb2; rw [← hq_]; have B2 := Aside0.mk hb2; clear hb2 hg2 hq_; have c1_0 := (blk_cell B1.out 0).trans rfl; have c1_1 := (blk_cell B1.out 1).trans rfl; have c1_2 := (blk_cell B1.out 2).trans rfl; have c2_0 := (blk_cell B2.out 0).trans rfl; have c2_1 := (blk_cell B2.out 1).trans rfl; have c2_2 := (blk_cell B2.out 2).trans rfl)
 refine (o0 _).mono ?_
 rintro e w9 ⟨g, rfl, hC, hb⟩
 have HC := Aside0.mk hC
 replace HB := Aside0.mk (below_step HB.out hb)
 clear hC hb
 obtain ⟨yad, ycs, yE, _, yK, ycc⟩ := Kd.C_get HC.out z35 ((0 : Nat) : Int) (by decide) (by decide)
 obtain rfl : yad = ⟨g, 0, none⟩ := (Option.some.inj yE).symm
 have yK' := yK
 obtain ⟨yA1, yc1, yA2, yc2, yA3, yc3, yA4, yc4, rfl, yl1, yg1, yl2, yg2, yl3, yg3, yl4, yg4⟩ := k35_open yK'
 have yx0 := ((Below.refl w9.heap.size w9).cell (World.block_lt_of_cell? w9 _ (ycc 0 _ rfl))).trans (ycc 0 _ rfl)
 have yx1 := ((Below.refl w9.heap.size w9).cell (World.block_lt_of_cell? w9 _ (ycc 1 _ rfl))).trans (ycc 1 _ rfl)
 have yx2 := ((Below.refl w9.heap.size w9).cell (World.block_lt_of_cell? w9 _ (ycc 2 _ rfl))).trans (ycc 2 _ rfl)
 have yx3 := ((Below.refl w9.heap.size w9).cell (World.block_lt_of_cell? w9 _ (ycc 3 _ rfl))).trans (ycc 3 _ rfl)
 have yx4 := ((Below.refl w9.heap.size w9).cell (World.block_lt_of_cell? w9 _ (ycc 4 _ rfl))).trans (ycc 4 _ rfl)
 rw [show (k35).sz = 5 from rfl, Nat.add_zero, Int.toNat_natCast] at yx0
 rw [show (k35).sz = 5 from rfl, Int.toNat_natCast, add_field _ _ 1 (by omega)] at yx1
 rw [show (k35).sz = 5 from rfl, Int.toNat_natCast, add_field _ _ 2 (by omega)] at yx2
 rw [show (k35).sz = 5 from rfl, Int.toNat_natCast, add_field _ _ 3 (by omega)] at yx3
 rw [show (k35).sz = 5 from rfl, Int.toNat_natCast, add_field _ _ 4 (by omega)] at yx4
 clear ycc
 try simp only [Int.toNat_natCast] at yx0 yx1 yx2 yx3 yx4 yK yl1 yg1 yl2 yg2 yl3 yg3 yl4 yg4
 generalize Yy0 : [oneN (⟨0, ⟨#[]⟩, 0, [], []⟩ : S42)].getD 0 z35 = y at yx0 yx1 yx2 yx3 yx4 yK yl1 yg1 yl2 yg2 yl3 yg3 yl4 yg4
 have Yy := Aside0.mk Yy0; clear Yy0
 simp only [Nat.zero_mul, add_zero'] at yx0 yx1 yx2 yx3 yx4
 have hy : y = oneN (⟨0, ⟨#[]⟩, 0, [], []⟩ : S42) := Yy.out.symm
 subst hy
 go_wp2_with fail
 refine (hva _ _ yK).mono ?_
 rintro e w10 ⟨A, c, rfl, hc, hC2, hb⟩
 replace HB := Aside0.mk (below_step HB.out hb)
 rw [hlen]
 clear hb hC2 hc HC yx0 yx1 yx2 yx3 yx4 yl1 yg1 yl2 yg2 yl3 yg3 yl4 yg4 yK
 go_wp2_with fail
 go_ret
 exact ⟨rfl, HB.out⟩
end Go.Proofs.YtggfnbnochmkdaaGreat
