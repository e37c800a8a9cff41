/- Package word: the operators of two: what stands for a name. -/
import Derived.Test.YticndoihkfbpoaaGreatDoorSm
import Derived.Test.YticndoihkfbpoaaGreatDoorUt
import Derived.Test.YticndoihkfbpoaaGreatDoorUa
namespace Go.Proofs.YticndoihkfbpoaaGreatDoor
open Go Go.RowKit Go.Lib Go.Proofs.YticndoihkfbpoaaGreatDoorW.PrintWords Go.Proofs.YticndoihkfbpoaaGreatDoor.PScope
set_option maxRecDepth 100000
set_option linter.unusedSimpArgs false
set_option linter.unusedVariables false
theorem run_eqIn_func (w : World) (d : Nat) (t : TypeId) (f : Fn) (a b : Array Value) {ps rs : Array TypeId} {v : Bool} (h : Tryz.prog.underlying t = some (.func ps rs v)) : (Op.equalIn (d + 1) t (.func f a b) .nilFunc).run Tryz.prog w = .ok false w := by
 simp [Op.equalIn, run_underlying h]
theorem run_eqIn_nilfunc (w : World) (d : Nat) (t : TypeId) {ps rs : Array TypeId} {v : Bool} (h : Tryz.prog.underlying t = some (.func ps rs v)) : (Op.equalIn (d + 1) t .nilFunc .nilFunc).run Tryz.prog w = .ok true w := by
 simp [Op.equalIn, run_underlying h]
theorem run_neq_func (w : World) (t : TypeId) (f : Fn) (a b : Array Value) {ps rs : Array TypeId} {v : Bool} (h : Tryz.prog.underlying t = some (.func ps rs v)) : (binOp .neq t (.func f a b) .nilFunc).run Tryz.prog w = .ok (.bool true) w := by
 have h1 : (Op.equal t (.func f a b) .nilFunc).run Tryz.prog w = .ok false w := run_eqIn_func w 9999 t f a b h
 simp only [binOp]
 simp [h1]
theorem run_neq_nilfunc (w : World) (t : TypeId) {ps rs : Array TypeId} {v : Bool} (h : Tryz.prog.underlying t = some (.func ps rs v)) : (binOp .neq t .nilFunc .nilFunc).run Tryz.prog w = .ok (.bool false) w := by
 have h1 : (Op.equal t .nilFunc .nilFunc).run Tryz.prog w = .ok true w := run_eqIn_nilfunc w 9999 t h
 simp only [binOp]
 simp [h1]
def opTab : List (ByteArray × Nat) := [(⟨#[43]⟩, 188), (⟨#[45]⟩, 189), (⟨#[42]⟩, 190), (⟨#[47]⟩, 191), (⟨#[37]⟩, 193), (⟨#[60]⟩, 195), (⟨#[60, 61]⟩, 196), (⟨#[61]⟩, 197), (⟨#[60, 62]⟩, 198), (⟨#[97, 110, 100]⟩, 199), (⟨#[111, 114]⟩, 200)]
def opNum (s : ByteArray) : Option Nat := (opTab.find? (fun x => decide (x.1 = s))).map (fun x => x.2)
def arithB (n : Nat) : Bool := [188, 189, 190, 191, 193].contains n
def OpIs (w : World) (s : ByteArray) (F : Value) : Prop :=
 (opNum s = none ∧ F = .nilFunc) ∨ (∃ n, opNum s = some n ∧ arithB n = true ∧ F = .func (.func n) #[] #[]) ∨
 (∃ n b, opNum s = some n ∧ arithB n = false ∧ F = .func (.func 218) #[] #[.pointer (some ⟨b, 0, none⟩)] ∧ w.heap[b]? = some (.cells #[.func (.func n) #[] #[]] 217 (0, 0)))
theorem opNum_isSome (s : ByteArray) : (opNum s).isSome = inL opL s := by
 unfold opNum inL
 rw [Option.isSome_map, Bool.eq_iff_iff, List.find?_isSome, List.any_eq_true]
 have e : opL = opTab.map (fun x => x.1) := rfl
 rw [e]
 constructor
 ·rintro ⟨x, hx, h⟩; exact ⟨x.1, List.mem_map.2 ⟨x, hx, rfl⟩, h⟩
 ·rintro ⟨y, hy, h⟩
  obtain ⟨x, hx, rfl⟩ := List.mem_map.1 hy
  exact ⟨x, hx, h⟩
theorem OpIs.isFn {w : World} {s : ByteArray} {F : Value} (h : OpIs w s F) : (F = .nilFunc ∧ inL opL s = false) ∨ ((∃ f c, F = .func f #[] c) ∧ inL opL s = true) := by
 rcases h with ⟨h, rfl⟩ | ⟨n, h, _, rfl⟩ | ⟨n, b, h, _, rfl, _⟩
 ·exact .inl ⟨rfl, by rw [← opNum_isSome, h]; rfl⟩
 ·exact .inr ⟨⟨_, _, rfl⟩, by rw [← opNum_isSome, h]; rfl⟩
 ·exact .inr ⟨⟨_, _, rfl⟩, by rw [← opNum_isSome, h]; rfl⟩
theorem arithmetic_calls (n : Nat) (w : World) : Calls Tryz.prog 187 #[.func (.func n) #[] #[]] w fun e w' => e = .returned (.agg #[.func (.func n) #[] #[], .int .i64 1, .int .i64 1]) ∧ Below w.heap.size w w' := by
 have HU := Aside0.mk Tryz.underlying213
 go_enter Tryz.func187, Tryz.ntmps187
 go_wp2_with ((with_reducible refine gate_store (t := 213) (p := 2) rfl ?_); refine store_whole rfl rfl 213 _ _ rfl w.heap.size _ 213 rfl (blk_new w (.cells #[.nilFunc, .int .i64 0, .int .i64 0] 213 (0, 0))) _ rfl rfl rfl (by simp [Value.oneCell']) ?_; intro wf hbf hgf; have HBF := Aside0.mk hbf; have HGF := Aside0.mk hgf; clear hbf hgf)
 refine bodyPost_ret (results_c1 rfl _ _ w.heap.size 213 _ (0, 0) _ rfl HBF.out HU.out rfl rfl) rfl ?_
 exact ⟨rfl, (below_alloc (Below.refl _ _) _).grown HGF.out (by simp) (fun k hk => by cases hk; exact Nat.le_refl _)⟩
theorem compares_calls (t : Int) (n : Nat) (w : World) : Calls Tryz.prog 194 #[.int .i64 t, .func (.func n) #[] #[]] w fun e w' => ∃ b, e = .returned (.agg #[.func (.func 218) #[] #[.pointer (some ⟨b, 0, none⟩)], .int .i64 t, .int .i64 2]) ∧ w'.heap[b]? = some (.cells #[.func (.func n) #[] #[]] 217 (0, 0)) ∧ Below w.heap.size w w' := by
 have HU := Aside0.mk Tryz.underlying213
 have hmf : ∀ (fn : Fn) (first cap : Array Value) (w : World), (Instr.makeFunc fn first cap).run Tryz.prog w = .ok (.func fn first cap) w := fun _ _ _ _ => rfl
 have hb1 : ((w.alloc (.cells #[.func (.func n) #[] #[]] 217 (0, 0))).alloc (.cells #[.nilFunc, .int .i64 0, .int .i64 0] 213 (0, 0))).heap[w.heap.size + 1]? = some (.cells #[.nilFunc, .int .i64 0, .int .i64 0] 213 (0, 0)) := by
  have := blk_new (w.alloc (.cells #[.func (.func n) #[] #[]] 217 (0, 0))) (.cells #[.nilFunc, .int .i64 0, .int .i64 0] 213 (0, 0))
  simpa using this
 have HB1 := Aside0.mk hb1
 clear hb1
 go_enter Tryz.func194, Tryz.ntmps194
 go_wp2_with ((with_reducible refine gate_store (t := 213) (p := 4) rfl ?_); refine store_whole rfl rfl 213 _ _ rfl (w.heap.size + 1) _ 213 rfl HB1.out _ rfl rfl rfl (by simp [Value.oneCell']) ?_; intro wf hbf hgf; have HBF := Aside0.mk hbf; have HGF := Aside0.mk hgf; clear hbf hgf)
 refine bodyPost_ret (results_c1 rfl _ _ (w.heap.size + 1) 213 _ (0, 0) _ rfl HBF.out HU.out rfl rfl) rfl ?_
 refine ⟨w.heap.size, rfl, ?_, (below_alloc (below_alloc (Below.refl _ _) _) _).grown HGF.out (by simp; omega) (fun k hk => by cases hk; omega)⟩
 exact (HGF.out.block _ (by simp; omega) (by intro e; injection e with e; omega)).trans (blk_alloc (blk_new w _) _)
set_option maxHeartbeats 4000000 in
theorem of_calls (s : ByteArray) (w : World) : Calls Tryz.prog 168 #[.string s] w fun e w' => ∃ F t1 t2, e = .returned (.agg #[F, .int .i64 t1, .int .i64 t2]) ∧ OpIs w' s F ∧ Below w.heap.size w w' := by
 have HU := Aside0.mk Tryz.underlying213
 have B2 := Aside0.mk (blk_new w (.cells #[.nilFunc, .int .i64 0, .int .i64 0] 213 (0, 0)))
 have HB := Aside0.mk (below_alloc (Below.refl w.heap.size w) (.cells #[.nilFunc, .int .i64 0, .int .i64 0] 213 (0, 0)))
 by_cases c1 : s = ⟨#[43]⟩
 ·subst c1
  go_enter Tryz.func168, Tryz.ntmps168
  go_wp2_with fail
  refine (arithmetic_calls 188 _).mono ?_
  rintro e w1 ⟨rfl, hb⟩
  replace B2 := Aside0.mk (below_blk B2.out hb)
  replace HB := Aside0.mk (below_step HB.out hb)
  have LBB := Aside0.mk (blk_lt B2.out)
  clear hb
  go_wp2_with ((with_reducible refine gate_store (t := 213) (p := 2) rfl ?_); refine store_whole rfl rfl 213 _ _ rfl w.heap.size _ 213 rfl B2.out _ rfl rfl rfl (by simp [Value.oneCell']) ?_; intro wf hbf hgf; have HBF := Aside0.mk hbf; have HGF := Aside0.mk hgf; clear hbf hgf)
  refine bodyPost_ret (results_c1 rfl _ _ w.heap.size 213 _ (0, 0) _ rfl HBF.out HU.out rfl rfl) rfl ?_
  exact ⟨_, _, _, rfl, .inr (.inl ⟨_, rfl, rfl, rfl⟩), HB.out.grown HGF.out HB.out.size (fun k hk => by cases hk; exact Nat.le_refl _)⟩
 by_cases c2 : s = ⟨#[45]⟩
 ·subst c2
  go_enter Tryz.func168, Tryz.ntmps168
  go_wp2_with fail
  refine (arithmetic_calls 189 _).mono ?_
  rintro e w1 ⟨rfl, hb⟩
  replace B2 := Aside0.mk (below_blk B2.out hb)
  replace HB := Aside0.mk (below_step HB.out hb)
  have LBB := Aside0.mk (blk_lt B2.out)
  clear hb
  go_wp2_with ((with_reducible refine gate_store (t := 213) (p := 2) rfl ?_); refine store_whole rfl rfl 213 _ _ rfl w.heap.size _ 213 rfl B2.out _ rfl rfl rfl (by simp [Value.oneCell']) ?_; intro wf hbf hgf; have HBF := Aside0.mk hbf; have HGF := Aside0.mk hgf; clear hbf hgf)
  refine bodyPost_ret (results_c1 rfl _ _ w.heap.size 213 _ (0, 0) _ rfl HBF.out HU.out rfl rfl) rfl ?_
  exact ⟨_, _, _, rfl, .inr (.inl ⟨_, rfl, rfl, rfl⟩), HB.out.grown HGF.out HB.out.size (fun k hk => by cases hk; exact Nat.le_refl _)⟩
 by_cases c3 : s = ⟨#[42]⟩
 ·subst c3
  go_enter Tryz.func168, Tryz.ntmps168
  go_wp2_with fail
  refine (arithmetic_calls 190 _).mono ?_
  rintro e w1 ⟨rfl, hb⟩
  replace B2 := Aside0.mk (below_blk B2.out hb)
  replace HB := Aside0.mk (below_step HB.out hb)
  have LBB := Aside0.mk (blk_lt B2.out)
  clear hb
  go_wp2_with ((with_reducible refine gate_store (t := 213) (p := 2) rfl ?_); refine store_whole rfl rfl 213 _ _ rfl w.heap.size _ 213 rfl B2.out _ rfl rfl rfl (by simp [Value.oneCell']) ?_; intro wf hbf hgf; have HBF := Aside0.mk hbf; have HGF := Aside0.mk hgf; clear hbf hgf)
  refine bodyPost_ret (results_c1 rfl _ _ w.heap.size 213 _ (0, 0) _ rfl HBF.out HU.out rfl rfl) rfl ?_
  exact ⟨_, _, _, rfl, .inr (.inl ⟨_, rfl, rfl, rfl⟩), HB.out.grown HGF.out HB.out.size (fun k hk => by cases hk; exact Nat.le_refl _)⟩
 by_cases c4 : s = ⟨#[47]⟩
 ·subst c4
  go_enter Tryz.func168, Tryz.ntmps168
  go_wp2_with fail
  refine (arithmetic_calls 191 _).mono ?_
  rintro e w1 ⟨rfl, hb⟩
  replace B2 := Aside0.mk (below_blk B2.out hb)
  replace HB := Aside0.mk (below_step HB.out hb)
  have LBB := Aside0.mk (blk_lt B2.out)
  clear hb
  go_wp2_with ((with_reducible refine gate_store (t := 213) (p := 2) rfl ?_); refine store_whole rfl rfl 213 _ _ rfl w.heap.size _ 213 rfl B2.out _ rfl rfl rfl (by simp [Value.oneCell']) ?_; intro wf hbf hgf; have HBF := Aside0.mk hbf; have HGF := Aside0.mk hgf; clear hbf hgf)
  refine bodyPost_ret (results_c1 rfl _ _ w.heap.size 213 _ (0, 0) _ rfl HBF.out HU.out rfl rfl) rfl ?_
  exact ⟨_, _, _, rfl, .inr (.inl ⟨_, rfl, rfl, rfl⟩), HB.out.grown HGF.out HB.out.size (fun k hk => by cases hk; exact Nat.le_refl _)⟩
 by_cases c5 : s = ⟨#[37]⟩
 ·subst c5
  go_enter Tryz.func168, Tryz.ntmps168
  go_wp2_with fail
  refine (arithmetic_calls 193 _).mono ?_
  rintro e w1 ⟨rfl, hb⟩
  replace B2 := Aside0.mk (below_blk B2.out hb)
  replace HB := Aside0.mk (below_step HB.out hb)
  have LBB := Aside0.mk (blk_lt B2.out)
  clear hb
  go_wp2_with ((with_reducible refine gate_store (t := 213) (p := 2) rfl ?_); refine store_whole rfl rfl 213 _ _ rfl w.heap.size _ 213 rfl B2.out _ rfl rfl rfl (by simp [Value.oneCell']) ?_; intro wf hbf hgf; have HBF := Aside0.mk hbf; have HGF := Aside0.mk hgf; clear hbf hgf)
  refine bodyPost_ret (results_c1 rfl _ _ w.heap.size 213 _ (0, 0) _ rfl HBF.out HU.out rfl rfl) rfl ?_
  exact ⟨_, _, _, rfl, .inr (.inl ⟨_, rfl, rfl, rfl⟩), HB.out.grown HGF.out HB.out.size (fun k hk => by cases hk; exact Nat.le_refl _)⟩
 by_cases c6 : s = ⟨#[60]⟩
 ·subst c6
  go_enter Tryz.func168, Tryz.ntmps168
  go_wp2_with fail
  refine (compares_calls 1 195 _).mono ?_
  rintro e w1 ⟨b, rfl, hblk, hb⟩
  have HQ := Aside0.mk hblk
  clear hblk
  replace B2 := Aside0.mk (below_blk B2.out hb)
  replace HB := Aside0.mk (below_step HB.out hb)
  have LBB := Aside0.mk (blk_lt B2.out)
  clear hb
  go_wp2_with ((with_reducible refine gate_store (t := 213) (p := 2) rfl ?_); refine store_whole rfl rfl 213 _ _ rfl w.heap.size _ 213 rfl B2.out _ rfl rfl rfl (by simp [Value.oneCell']) ?_; intro wf hbf hgf; have HBF := Aside0.mk hbf; have HGF := Aside0.mk hgf; clear hbf hgf)
  refine bodyPost_ret (results_c1 rfl _ _ w.heap.size 213 _ (0, 0) _ rfl HBF.out HU.out rfl rfl) rfl ?_
  refine ⟨_, _, _, rfl, .inr (.inr ⟨_, b, rfl, rfl, rfl, ?_⟩), HB.out.grown HGF.out HB.out.size (fun k hk => by cases hk; exact Nat.le_refl _)⟩
  have hne : b ≠ w.heap.size := by
   rintro rfl
   have h1 := HQ.out; rw [B2.out] at h1; cases h1
  exact (HGF.out.block _ (blk_lt HQ.out) (fun e => hne (by injection e))).trans HQ.out
 by_cases c7 : s = ⟨#[60, 61]⟩
 ·subst c7
  go_enter Tryz.func168, Tryz.ntmps168
  go_wp2_with fail
  refine (compares_calls 1 196 _).mono ?_
  rintro e w1 ⟨b, rfl, hblk, hb⟩
  have HQ := Aside0.mk hblk
  clear hblk
  replace B2 := Aside0.mk (below_blk B2.out hb)
  replace HB := Aside0.mk (below_step HB.out hb)
  have LBB := Aside0.mk (blk_lt B2.out)
  clear hb
  go_wp2_with ((with_reducible refine gate_store (t := 213) (p := 2) rfl ?_); refine store_whole rfl rfl 213 _ _ rfl w.heap.size _ 213 rfl B2.out _ rfl rfl rfl (by simp [Value.oneCell']) ?_; intro wf hbf hgf; have HBF := Aside0.mk hbf; have HGF := Aside0.mk hgf; clear hbf hgf)
  refine bodyPost_ret (results_c1 rfl _ _ w.heap.size 213 _ (0, 0) _ rfl HBF.out HU.out rfl rfl) rfl ?_
  refine ⟨_, _, _, rfl, .inr (.inr ⟨_, b, rfl, rfl, rfl, ?_⟩), HB.out.grown HGF.out HB.out.size (fun k hk => by cases hk; exact Nat.le_refl _)⟩
  have hne : b ≠ w.heap.size := by
   rintro rfl
   have h1 := HQ.out; rw [B2.out] at h1; cases h1
  exact (HGF.out.block _ (blk_lt HQ.out) (fun e => hne (by injection e))).trans HQ.out
 by_cases c8 : s = ⟨#[61]⟩
 ·subst c8
  go_enter Tryz.func168, Tryz.ntmps168
  go_wp2_with fail
  refine (compares_calls 0 197 _).mono ?_
  rintro e w1 ⟨b, rfl, hblk, hb⟩
  have HQ := Aside0.mk hblk
  clear hblk
  replace B2 := Aside0.mk (below_blk B2.out hb)
  replace HB := Aside0.mk (below_step HB.out hb)
  have LBB := Aside0.mk (blk_lt B2.out)
  clear hb
  go_wp2_with ((with_reducible refine gate_store (t := 213) (p := 2) rfl ?_); refine store_whole rfl rfl 213 _ _ rfl w.heap.size _ 213 rfl B2.out _ rfl rfl rfl (by simp [Value.oneCell']) ?_; intro wf hbf hgf; have HBF := Aside0.mk hbf; have HGF := Aside0.mk hgf; clear hbf hgf)
  refine bodyPost_ret (results_c1 rfl _ _ w.heap.size 213 _ (0, 0) _ rfl HBF.out HU.out rfl rfl) rfl ?_
  refine ⟨_, _, _, rfl, .inr (.inr ⟨_, b, rfl, rfl, rfl, ?_⟩), HB.out.grown HGF.out HB.out.size (fun k hk => by cases hk; exact Nat.le_refl _)⟩
  have hne : b ≠ w.heap.size := by
   rintro rfl
   have h1 := HQ.out; rw [B2.out] at h1; cases h1
  exact (HGF.out.block _ (blk_lt HQ.out) (fun e => hne (by injection e))).trans HQ.out
 by_cases c9 : s = ⟨#[60, 62]⟩
 ·subst c9
  go_enter Tryz.func168, Tryz.ntmps168
  go_wp2_with fail
  refine (compares_calls 0 198 _).mono ?_
  rintro e w1 ⟨b, rfl, hblk, hb⟩
  have HQ := Aside0.mk hblk
  clear hblk
  replace B2 := Aside0.mk (below_blk B2.out hb)
  replace HB := Aside0.mk (below_step HB.out hb)
  have LBB := Aside0.mk (blk_lt B2.out)
  clear hb
  go_wp2_with ((with_reducible refine gate_store (t := 213) (p := 2) rfl ?_); refine store_whole rfl rfl 213 _ _ rfl w.heap.size _ 213 rfl B2.out _ rfl rfl rfl (by simp [Value.oneCell']) ?_; intro wf hbf hgf; have HBF := Aside0.mk hbf; have HGF := Aside0.mk hgf; clear hbf hgf)
  refine bodyPost_ret (results_c1 rfl _ _ w.heap.size 213 _ (0, 0) _ rfl HBF.out HU.out rfl rfl) rfl ?_
  refine ⟨_, _, _, rfl, .inr (.inr ⟨_, b, rfl, rfl, rfl, ?_⟩), HB.out.grown HGF.out HB.out.size (fun k hk => by cases hk; exact Nat.le_refl _)⟩
  have hne : b ≠ w.heap.size := by
   rintro rfl
   have h1 := HQ.out; rw [B2.out] at h1; cases h1
  exact (HGF.out.block _ (blk_lt HQ.out) (fun e => hne (by injection e))).trans HQ.out
 by_cases c10 : s = ⟨#[97, 110, 100]⟩
 ·subst c10
  go_enter Tryz.func168, Tryz.ntmps168
  go_wp2_with fail
  refine (compares_calls 2 199 _).mono ?_
  rintro e w1 ⟨b, rfl, hblk, hb⟩
  have HQ := Aside0.mk hblk
  clear hblk
  replace B2 := Aside0.mk (below_blk B2.out hb)
  replace HB := Aside0.mk (below_step HB.out hb)
  have LBB := Aside0.mk (blk_lt B2.out)
  clear hb
  go_wp2_with ((with_reducible refine gate_store (t := 213) (p := 2) rfl ?_); refine store_whole rfl rfl 213 _ _ rfl w.heap.size _ 213 rfl B2.out _ rfl rfl rfl (by simp [Value.oneCell']) ?_; intro wf hbf hgf; have HBF := Aside0.mk hbf; have HGF := Aside0.mk hgf; clear hbf hgf)
  refine bodyPost_ret (results_c1 rfl _ _ w.heap.size 213 _ (0, 0) _ rfl HBF.out HU.out rfl rfl) rfl ?_
  refine ⟨_, _, _, rfl, .inr (.inr ⟨_, b, rfl, rfl, rfl, ?_⟩), HB.out.grown HGF.out HB.out.size (fun k hk => by cases hk; exact Nat.le_refl _)⟩
  have hne : b ≠ w.heap.size := by
   rintro rfl
   have h1 := HQ.out; rw [B2.out] at h1; cases h1
  exact (HGF.out.block _ (blk_lt HQ.out) (fun e => hne (by injection e))).trans HQ.out
 by_cases c11 : s = ⟨#[111, 114]⟩
 ·subst c11
  go_enter Tryz.func168, Tryz.ntmps168
  go_wp2_with fail
  refine (compares_calls 2 200 _).mono ?_
  rintro e w1 ⟨b, rfl, hblk, hb⟩
  have HQ := Aside0.mk hblk
  clear hblk
  replace B2 := Aside0.mk (below_blk B2.out hb)
  replace HB := Aside0.mk (below_step HB.out hb)
  have LBB := Aside0.mk (blk_lt B2.out)
  clear hb
  go_wp2_with ((with_reducible refine gate_store (t := 213) (p := 2) rfl ?_); refine store_whole rfl rfl 213 _ _ rfl w.heap.size _ 213 rfl B2.out _ rfl rfl rfl (by simp [Value.oneCell']) ?_; intro wf hbf hgf; have HBF := Aside0.mk hbf; have HGF := Aside0.mk hgf; clear hbf hgf)
  refine bodyPost_ret (results_c1 rfl _ _ w.heap.size 213 _ (0, 0) _ rfl HBF.out HU.out rfl rfl) rfl ?_
  refine ⟨_, _, _, rfl, .inr (.inr ⟨_, b, rfl, rfl, rfl, ?_⟩), HB.out.grown HGF.out HB.out.size (fun k hk => by cases hk; exact Nat.le_refl _)⟩
  have hne : b ≠ w.heap.size := by
   rintro rfl
   have h1 := HQ.out; rw [B2.out] at h1; cases h1
  exact (HGF.out.block _ (blk_lt HQ.out) (fun e => hne (by injection e))).trans HQ.out
 have hnone : opNum s = none := by
  have h : inL opL s = false := by
   unfold inL
   rw [List.any_eq_false]
   intro x hx
   simp only [opL, List.mem_cons, List.not_mem_nil, or_false] at hx
   intro h
   have e := of_decide_eq_true h
   subst e
   rcases hx with h | h | h | h | h | h | h | h | h | h | h <;> first | exact c1 h | exact c2 h | exact c3 h | exact c4 h | exact c5 h | exact c6 h | exact c7 h | exact c8 h | exact c9 h | exact c10 h | exact c11 h
  rw [← opNum_isSome] at h
  cases hq : opNum s with
  | none => rfl
  | some n => rw [hq] at h; cases h
 have d1 : (s.toList == [43]) = false := beq_eq_false_iff_ne.2 (fun h => c1 (toList_inj (by simpa using h)))
 have d2 : (s.toList == [45]) = false := beq_eq_false_iff_ne.2 (fun h => c2 (toList_inj (by simpa using h)))
 have d3 : (s.toList == [42]) = false := beq_eq_false_iff_ne.2 (fun h => c3 (toList_inj (by simpa using h)))
 have d4 : (s.toList == [47]) = false := beq_eq_false_iff_ne.2 (fun h => c4 (toList_inj (by simpa using h)))
 have d5 : (s.toList == [37]) = false := beq_eq_false_iff_ne.2 (fun h => c5 (toList_inj (by simpa using h)))
 have d6 : (s.toList == [60]) = false := beq_eq_false_iff_ne.2 (fun h => c6 (toList_inj (by simpa using h)))
 have d7 : (s.toList == [60, 61]) = false := beq_eq_false_iff_ne.2 (fun h => c7 (toList_inj (by simpa using h)))
 have d8 : (s.toList == [61]) = false := beq_eq_false_iff_ne.2 (fun h => c8 (toList_inj (by simpa using h)))
 have d9 : (s.toList == [60, 62]) = false := beq_eq_false_iff_ne.2 (fun h => c9 (toList_inj (by simpa using h)))
 have d10 : (s.toList == [97, 110, 100]) = false := beq_eq_false_iff_ne.2 (fun h => c10 (toList_inj (by simpa using h)))
 have d11 : (s.toList == [111, 114]) = false := beq_eq_false_iff_ne.2 (fun h => c11 (toList_inj (by simpa using h)))
 have HN := Aside0.mk hnone
 clear hnone c1 c2 c3 c4 c5 c6 c7 c8 c9 c10 c11
 go_enter Tryz.func168, Tryz.ntmps168
 go_wp2_with ((with_reducible refine gate_store (t := 213) (p := 2) rfl ?_); refine store_whole rfl rfl 213 _ _ rfl w.heap.size _ 213 rfl B2.out _ rfl rfl rfl (by simp [Value.oneCell']) ?_; intro wf hbf hgf; have HBF := Aside0.mk hbf; have HGF := Aside0.mk hgf; clear hbf hgf)
 refine bodyPost_ret (results_c1 rfl _ _ w.heap.size 213 _ (0, 0) _ rfl HBF.out HU.out rfl rfl) rfl ?_
 exact ⟨_, _, _, rfl, .inl ⟨HN.out, rfl⟩, HB.out.grown HGF.out HB.out.size (fun k hk => by cases hk; exact Nat.le_refl _)⟩
set_option maxHeartbeats 4000000 in
theorem takes2_calls (s : ByteArray) (w : World) : Calls Tryz.prog 212 #[.string s, .int .i64 2] w fun e w' => (∃ t1 t2, e = .returned (.tuple #[.int .i64 t1, .int .i64 t2, .bool (inL opL s)])) ∧ Below w.heap.size w w' := by
 go_enter Tryz.func212, Tryz.ntmps212
 go_wp2_with fail
 refine (of_calls s _).mono ?_
 rintro e w1 ⟨F, t1, t2, rfl, hop, hb⟩
 have HB := Aside0.mk hb
 clear hb
 rcases hop.isFn with ⟨rfl, hq⟩ | ⟨⟨f, c, rfl⟩, hq⟩
 ·have HQ := Aside0.mk hq
  clear hop hq
  have hu1 := fun W => run_neq_nilfunc W 210 Tryz.underlying210
  go_wp2_with ((with_reducible refine gate_store (t := 213) (p := 7) rfl ?_); refine store_whole rfl rfl 213 _ _ rfl w1.heap.size _ 213 rfl (blk_new _ _) _ rfl rfl rfl (by simp [Value.oneCell']) ?_; intro w2 hb2 hg2; have B7 := Aside0.mk hb2; replace HB := Aside0.mk (below_as HB.out hg2); have c0 := (blk_cell hb2 0).trans rfl; have c1 := (blk_cell hb2 1).trans rfl; have c2 := (blk_cell hb2 2).trans rfl; clear hb2 hg2)
  go_quiet (fail)
  go_wp2_with fail
  go_ret3
  exact ⟨⟨t1, t2, by rw [HQ.out]; rfl⟩, pw_below_drewN HB.out nq⟩
 ·have HQ := Aside0.mk hq
  clear hop hq
  have hu1 := fun W => run_neq_func W 210 f #[] c Tryz.underlying210
  go_wp2_with ((with_reducible refine gate_store (t := 213) (p := 7) rfl ?_); refine store_whole rfl rfl 213 _ _ rfl w1.heap.size _ 213 rfl (blk_new _ _) _ rfl rfl rfl (by simp [Value.oneCell']) ?_; intro w2 hb2 hg2; have B7 := Aside0.mk hb2; replace HB := Aside0.mk (below_as HB.out hg2); have c0 := (blk_cell hb2 0).trans rfl; have c1 := (blk_cell hb2 1).trans rfl; have c2 := (blk_cell hb2 2).trans rfl; clear hb2 hg2)
  go_quiet (fail)
  go_wp2_with fail
  go_ret3
  exact ⟨⟨t1, t2, by rw [HQ.out]; rfl⟩, pw_below_drewN HB.out nq⟩
end Go.Proofs.YticndoihkfbpoaaGreatDoor
