/- Package runner: below: which functions statements name. -/
import Derived.Test.YticndoihkfbpoaaGreatDoorVb
namespace Go.Proofs.YticndoihkfbpoaaGreatDoor
open Go Go.RowKit Go.Lib Go.Proofs.YticndoihkfbpoaaGreatDoorW.PrintWords Go.Proofs.YticndoihkfbpoaaGreatDoor.PScope
set_option maxRecDepth 100000
set_option linter.unusedSimpArgs false
set_option linter.unusedVariables false

/-- What below answers of a row. -/
def BelowSays (k : Int) (l : List FS) : Prop := ∀ (w : World) (A : Option Addr) (c : Nat), kFS.C w A l.length l →
  Calls Tryz.prog 66 #[.slice A l.length c, .int .i64 k] w fun e w' => e = .returned (.bool (!badL k l)) ∧ Below w.heap.size w w'
set_option maxHeartbeats 1000000 in
theorem below11_calls (k : Int) (a : Int × List FS) (hb : BelowSays k a.2) (cs : List Value) (gb : Nat) (W : World) (hK : kFA.K W a cs) (hg : W.heap[gb]? = some (.cells #[.int .i64 k] 3 (0, 0))) :
    Calls Tryz.prog 105 #[.agg cs.toArray, .pointer (some ⟨gb, 0, none⟩)] W fun e W' => e = .returned (.bool (badL k a.2)) ∧ Below W.heap.size W W' := by
  obtain ⟨A1, c1, rfl, _, hC⟩ := kFA_open hK
  have HB := Aside0.mk hb
  have HC := Aside0.mk hC
  have x0 := (blk_cell hg 0).trans rfl
  have x1 := fun (ob : Obj) => (blk_cell (blk_alloc hg ob) 0).trans rfl
  clear hK hC hb hg
  go_enter Tryz.func105, Tryz.ntmps105
  go_wp2_with fail
  refine (HB.out _ A1 c1 (Kd.C_alloc HC.out _)).mono ?_
  rintro e W' ⟨rfl, hbb⟩
  have HBB := Aside0.mk (below_step (below_alloc (Below.refl _ W) _) hbb)
  clear hbb x0 x1
  go_wp2_with fail
  go_ret
  exact ⟨by simp, HBB.out⟩
theorem below11_eg : ∀ args w, (callFunc 105 args).run Tryz.prog w = .ok (.enter 105 args) w := enters_of Tryz.func105 (by kernel_rfl) rfl
theorem below1_eg : ∀ args w, (callFunc 103 args).run Tryz.prog w = .ok (.enter 103 args) w := enters_of Tryz.func103 (by kernel_rfl) rfl
theorem getD_mem {α : Type} {xs : List α} {i : Nat} (hi : i < xs.length) (z : α) : xs.getD i z ∈ xs := by
  rw [List.getD_eq_getElem?_getD, List.getElem?_eq_getElem hi]; exact List.getElem_mem hi
set_option maxHeartbeats 4000000 in
theorem below1_calls (k : Int) (s : FS) (hb : ∀ a ∈ s.arms, BelowSays k a.2) (cs : List Value) (gb : Nat) (W : World) (hK : kFS.K W s cs) (hg : W.heap[gb]? = some (.cells #[.int .i64 k] 3 (0, 0))) :
    Calls Tryz.prog 103 #[.agg cs.toArray, .pointer (some ⟨gb, 0, none⟩)] W fun e W' => e = .returned (.bool (badS k s)) ∧ Below W.heap.size W W' := by
  obtain ⟨A4, c4, ce, A6, c6, A7, c7, rfl, _, _, g5, _, _, _, hC⟩ := kFS_open hK
  obtain ⟨A8, c8, A9, c9, rfl, _⟩ := k38_open g5
  have HB := Aside0.mk hb
  have HC := Aside0.mk hC
  have HG := Aside0.mk hg
  have hmf := run_mkfn
  rw [badS_eq]
  have x0 := (blk_cell hg 0).trans rfl
  have x1 := fun (ob : Obj) => (blk_cell (blk_alloc hg ob) 0).trans rfl
  clear hK hC hb hg g5
  simp only [fsCells, List.cons_append, List.nil_append]
  unfold callBad
  have d3 : ∀ (b : Int), (s.op == b) = decide (s.op = b) := fun _ => rfl
  by_cases hc : s.op = 3 ∨ s.op = 4
  · have hcb : (decide (s.op = 3) || decide (s.op = 4)) = true := by simpa using hc
    rw [hcb]
    by_cases hn : s.fn < 0
    · have dn : decide (s.fn < 0) = true := decide_eq_true hn
      rw [dn]
      rcases hc with h3 | h4
      · have y3 : (s.op == (3 : Int)) = true := by rw [h3]; rfl
        clear d3 h3
        go_enter Tryz.func103, Tryz.ntmps103
        go_wp2_with fail
        go_ret
        exact ⟨by simp, below_alloc (Below.refl _ _) _⟩
      · have y3 : (s.op == (3 : Int)) = false := by rw [h4]; rfl
        have y4 : (s.op == (4 : Int)) = true := by rw [h4]; rfl
        clear d3 h4
        go_enter Tryz.func103, Tryz.ntmps103
        go_wp2_with fail
        go_ret
        exact ⟨by simp, below_alloc (Below.refl _ _) _⟩
    · have dn : decide (s.fn < 0) = false := decide_eq_false hn
      rw [dn]
      by_cases hk : s.fn ≥ k
      · have dk : decide (s.fn ≥ k) = true := decide_eq_true hk
        rw [dk]
        rcases hc with h3 | h4
        · have y3 : (s.op == (3 : Int)) = true := by rw [h3]; rfl
          clear d3 h3
          go_enter Tryz.func103, Tryz.ntmps103
          go_wp2_with fail
          go_ret
          exact ⟨by simp, below_alloc (Below.refl _ _) _⟩
        · have y3 : (s.op == (3 : Int)) = false := by rw [h4]; rfl
          have y4 : (s.op == (4 : Int)) = true := by rw [h4]; rfl
          clear d3 h4
          go_enter Tryz.func103, Tryz.ntmps103
          go_wp2_with fail
          go_ret
          exact ⟨by simp, below_alloc (Below.refl _ _) _⟩
      · have dk : decide (s.fn ≥ k) = false := decide_eq_false hk
        rw [dk]
        rcases hc with h3 | h4
        · have y3 : (s.op == (3 : Int)) = true := by rw [h3]; rfl
          clear d3 h3
          go_enter Tryz.func103, Tryz.ntmps103
          go_wp2_with fail
          refine (ct_FArm 105 #[.pointer (some ⟨gb, 0, none⟩)] below11_eg _ _ A7 c7 s.arms (Kd.C_alloc HC.out _) (fun i => (fun a : Int × List FS => badL k a.2) (s.arms.getD i ((0, []) : Int × List FS))) (fun _ W2 => Below (W.alloc (.cells #[.int .i64 s.op, .string s.name, .int .i64 s.pos, .int .i64 s.fn, .slice A4 s.names.length c4, .int .i64 s.e.f0, .string s.e.f1, .int .i64 s.e.f2, .slice A8 s.e.f3.length c8, .slice A9 s.e.f4.length c9, .slice A6 s.args.length c6, .slice A7 s.arms.length c7] 41 (0, 0))).heap.size (W.alloc (.cells #[.int .i64 s.op, .string s.name, .int .i64 s.pos, .int .i64 s.fn, .slice A4 s.names.length c4, .int .i64 s.e.f0, .string s.e.f1, .int .i64 s.e.f2, .slice A8 s.e.f3.length c8, .slice A9 s.e.f4.length c9, .slice A6 s.args.length c6, .slice A7 s.arms.length c7] 41 (0, 0))) W2) (fun _ W2 => Below (W.alloc (.cells #[.int .i64 s.op, .string s.name, .int .i64 s.pos, .int .i64 s.fn, .slice A4 s.names.length c4, .int .i64 s.e.f0, .string s.e.f1, .int .i64 s.e.f2, .slice A8 s.e.f3.length c8, .slice A9 s.e.f4.length c9, .slice A6 s.args.length c6, .slice A7 s.arms.length c7] 41 (0, 0))).heap.size (W.alloc (.cells #[.int .i64 s.op, .string s.name, .int .i64 s.pos, .int .i64 s.fn, .slice A4 s.names.length c4, .int .i64 s.e.f0, .string s.e.f1, .int .i64 s.e.f2, .slice A8 s.e.f3.length c8, .slice A9 s.e.f4.length c9, .slice A6 s.args.length c6, .slice A7 s.arms.length c7] 41 (0, 0))) W2) (fun _ _ h => h) ?_ (Below.refl _ _)).mono ?_
          · intro i W2 cs2 hi hI hK2
            refine (below11_calls k _ (HB.out _ (getD_mem hi _)) cs2 gb W2 (Kd.K_below _ hI hK2) (below_blk (blk_alloc HG.out _) hI)).mono ?_
            rintro e W3 ⟨rfl, hb3⟩
            exact ⟨rfl, fun _ => below_step hI hb3, fun _ => below_step hI hb3⟩
          · intro e W2 hp
            obtain ⟨rfl, hI⟩ := CtPost.any (q := fun a : Int × List FS => badL k a.2) (z := ((0, []) : Int × List FS)) hp
            have HBB := Aside0.mk (below_step (below_alloc (Below.refl _ W) _) hI)
            clear hp hI x0 x1
            go_wp2_with fail
            go_ret
            exact ⟨by simp, HBB.out⟩
        · have y3 : (s.op == (3 : Int)) = false := by rw [h4]; rfl
          have y4 : (s.op == (4 : Int)) = true := by rw [h4]; rfl
          clear d3 h4
          go_enter Tryz.func103, Tryz.ntmps103
          go_wp2_with fail
          refine (ct_FArm 105 #[.pointer (some ⟨gb, 0, none⟩)] below11_eg _ _ A7 c7 s.arms (Kd.C_alloc HC.out _) (fun i => (fun a : Int × List FS => badL k a.2) (s.arms.getD i ((0, []) : Int × List FS))) (fun _ W2 => Below (W.alloc (.cells #[.int .i64 s.op, .string s.name, .int .i64 s.pos, .int .i64 s.fn, .slice A4 s.names.length c4, .int .i64 s.e.f0, .string s.e.f1, .int .i64 s.e.f2, .slice A8 s.e.f3.length c8, .slice A9 s.e.f4.length c9, .slice A6 s.args.length c6, .slice A7 s.arms.length c7] 41 (0, 0))).heap.size (W.alloc (.cells #[.int .i64 s.op, .string s.name, .int .i64 s.pos, .int .i64 s.fn, .slice A4 s.names.length c4, .int .i64 s.e.f0, .string s.e.f1, .int .i64 s.e.f2, .slice A8 s.e.f3.length c8, .slice A9 s.e.f4.length c9, .slice A6 s.args.length c6, .slice A7 s.arms.length c7] 41 (0, 0))) W2) (fun _ W2 => Below (W.alloc (.cells #[.int .i64 s.op, .string s.name, .int .i64 s.pos, .int .i64 s.fn, .slice A4 s.names.length c4, .int .i64 s.e.f0, .string s.e.f1, .int .i64 s.e.f2, .slice A8 s.e.f3.length c8, .slice A9 s.e.f4.length c9, .slice A6 s.args.length c6, .slice A7 s.arms.length c7] 41 (0, 0))).heap.size (W.alloc (.cells #[.int .i64 s.op, .string s.name, .int .i64 s.pos, .int .i64 s.fn, .slice A4 s.names.length c4, .int .i64 s.e.f0, .string s.e.f1, .int .i64 s.e.f2, .slice A8 s.e.f3.length c8, .slice A9 s.e.f4.length c9, .slice A6 s.args.length c6, .slice A7 s.arms.length c7] 41 (0, 0))) W2) (fun _ _ h => h) ?_ (Below.refl _ _)).mono ?_
          · intro i W2 cs2 hi hI hK2
            refine (below11_calls k _ (HB.out _ (getD_mem hi _)) cs2 gb W2 (Kd.K_below _ hI hK2) (below_blk (blk_alloc HG.out _) hI)).mono ?_
            rintro e W3 ⟨rfl, hb3⟩
            exact ⟨rfl, fun _ => below_step hI hb3, fun _ => below_step hI hb3⟩
          · intro e W2 hp
            obtain ⟨rfl, hI⟩ := CtPost.any (q := fun a : Int × List FS => badL k a.2) (z := ((0, []) : Int × List FS)) hp
            have HBB := Aside0.mk (below_step (below_alloc (Below.refl _ W) _) hI)
            clear hp hI x0 x1
            go_wp2_with fail
            go_ret
            exact ⟨by simp, HBB.out⟩
  · have hcb : (decide (s.op = 3) || decide (s.op = 4)) = false := by simpa using hc
    have y3 : (s.op == (3 : Int)) = false := by simp at hcb; simpa using hcb.1
    have y4 : (s.op == (4 : Int)) = false := by simp at hcb; simpa using hcb.2
    rw [hcb]
    clear d3
    go_enter Tryz.func103, Tryz.ntmps103
    go_wp2_with fail
    refine (ct_FArm 105 #[.pointer (some ⟨gb, 0, none⟩)] below11_eg _ _ A7 c7 s.arms (Kd.C_alloc HC.out _) (fun i => (fun a : Int × List FS => badL k a.2) (s.arms.getD i ((0, []) : Int × List FS))) (fun _ W2 => Below (W.alloc (.cells #[.int .i64 s.op, .string s.name, .int .i64 s.pos, .int .i64 s.fn, .slice A4 s.names.length c4, .int .i64 s.e.f0, .string s.e.f1, .int .i64 s.e.f2, .slice A8 s.e.f3.length c8, .slice A9 s.e.f4.length c9, .slice A6 s.args.length c6, .slice A7 s.arms.length c7] 41 (0, 0))).heap.size (W.alloc (.cells #[.int .i64 s.op, .string s.name, .int .i64 s.pos, .int .i64 s.fn, .slice A4 s.names.length c4, .int .i64 s.e.f0, .string s.e.f1, .int .i64 s.e.f2, .slice A8 s.e.f3.length c8, .slice A9 s.e.f4.length c9, .slice A6 s.args.length c6, .slice A7 s.arms.length c7] 41 (0, 0))) W2) (fun _ W2 => Below (W.alloc (.cells #[.int .i64 s.op, .string s.name, .int .i64 s.pos, .int .i64 s.fn, .slice A4 s.names.length c4, .int .i64 s.e.f0, .string s.e.f1, .int .i64 s.e.f2, .slice A8 s.e.f3.length c8, .slice A9 s.e.f4.length c9, .slice A6 s.args.length c6, .slice A7 s.arms.length c7] 41 (0, 0))).heap.size (W.alloc (.cells #[.int .i64 s.op, .string s.name, .int .i64 s.pos, .int .i64 s.fn, .slice A4 s.names.length c4, .int .i64 s.e.f0, .string s.e.f1, .int .i64 s.e.f2, .slice A8 s.e.f3.length c8, .slice A9 s.e.f4.length c9, .slice A6 s.args.length c6, .slice A7 s.arms.length c7] 41 (0, 0))) W2) (fun _ _ h => h) ?_ (Below.refl _ _)).mono ?_
    · intro i W2 cs2 hi hI hK2
      refine (below11_calls k _ (HB.out _ (getD_mem hi _)) cs2 gb W2 (Kd.K_below _ hI hK2) (below_blk (blk_alloc HG.out _) hI)).mono ?_
      rintro e W3 ⟨rfl, hb3⟩
      exact ⟨rfl, fun _ => below_step hI hb3, fun _ => below_step hI hb3⟩
    · intro e W2 hp
      obtain ⟨rfl, hI⟩ := CtPost.any (q := fun a : Int × List FS => badL k a.2) (z := ((0, []) : Int × List FS)) hp
      have HBB := Aside0.mk (below_step (below_alloc (Below.refl _ W) _) hI)
      clear hp hI x0 x1
      go_wp2_with fail
      go_ret
      exact ⟨by simp, HBB.out⟩
set_option maxHeartbeats 1000000 in
theorem below_calls (k : Int) : ∀ (l : List FS), Small l → BelowSays k l := by
  intro l hl
  induction hl with
  | mk l h1 h2 h3 ih =>
    intro w A c hC
    have HI := Aside0.mk ih
    have HC := Aside0.mk hC
    have hmf := run_mkfn
    clear h1 h2 h3 ih hC
    go_enter Tryz.func66, Tryz.ntmps66
    go_wp2_with fail
    refine (ct_FStmt 103 #[.pointer (some ⟨w.heap.size, 0, none⟩)] below1_eg _ _ A c l (Kd.C_alloc HC.out _) (fun i => (badS k) (l.getD i zFS)) (fun _ W2 => Below (w.alloc (.cells #[.int .i64 k] 3 (0, 0))).heap.size (w.alloc (.cells #[.int .i64 k] 3 (0, 0))) W2) (fun _ W2 => Below (w.alloc (.cells #[.int .i64 k] 3 (0, 0))).heap.size (w.alloc (.cells #[.int .i64 k] 3 (0, 0))) W2) (fun _ _ h => h) ?_ (Below.refl _ _)).mono ?_
    · intro i W2 cs2 hi hI hK2
      refine (below1_calls k _ (HI.out _ (getD_mem hi _)) cs2 w.heap.size W2 (Kd.K_below _ hI hK2) (below_blk (blk_new w _) hI)).mono ?_
      rintro e W3 ⟨rfl, hb3⟩
      exact ⟨rfl, fun _ => below_step hI hb3, fun _ => below_step hI hb3⟩
    · intro e W2 hp
      obtain ⟨rfl, hI⟩ := CtPost.any (q := badS k) (z := zFS) hp
      have HBB := Aside0.mk (below_step (below_alloc (Below.refl _ w) _) hI)
      clear hp hI
      go_wp2_with fail
      go_ret
      exact ⟨by rw [badL_any]; rfl, HBB.out⟩
end Go.Proofs.YticndoihkfbpoaaGreatDoor
