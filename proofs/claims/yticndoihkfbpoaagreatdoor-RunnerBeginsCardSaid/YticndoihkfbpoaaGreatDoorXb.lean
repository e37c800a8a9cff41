/- Flat programs, in plain Lean: which functions are named, what statements cost; how much a program may hold. -/
import Derived.Test.YticndoihkfbpoaaGreatDoorUa
import Derived.Test.YticndoihkfbpoaaGreatDoorXa
namespace Go.Proofs.YticndoihkfbpoaaGreatDoor
open Go Go.RowKit Go.Lib Go.Proofs.YticndoihkfbpoaaGreatDoorW.PrintWords Go.Proofs.YticndoihkfbpoaaGreatDoor.PScope
set_option maxRecDepth 100000
set_option linter.unusedSimpArgs false
set_option linter.unusedVariables false

/-- Rows of statements of a size that a machine can hold. -/
inductive Small : List FS → Prop where
  | mk (l : List FS) (h : l.length ≤ 1099511627776) (ha : ∀ s ∈ l, s.arms.length ≤ 8796093022208) (hr : ∀ s ∈ l, ∀ a ∈ s.arms, Small a.2) : Small l
/-- A statement names a function that isn't below k. -/
def callBad (k : Int) (s : FS) : Bool := (decide (s.op = 3) || decide (s.op = 4)) && (decide (s.fn < 0) || decide (s.fn ≥ k))
mutual
def badS (k : Int) : FS → Bool
  | .mk op _ _ fn _ _ _ arms => ((decide (op = 3) || decide (op = 4)) && (decide (fn < 0) || decide (fn ≥ k))) || badA k arms
def badL (k : Int) : List FS → Bool
  | [] => false
  | s :: r => badS k s || badL k r
def badA (k : Int) : List (Int × List FS) → Bool
  | [] => false
  | a :: r => badP k a || badA k r
def badP (k : Int) : Int × List FS → Bool
  | (_, b) => badL k b
end
theorem badL_any (k : Int) : ∀ l, badL k l = l.any (badS k)
  | [] => rfl
  | s :: r => by rw [badL, badL_any k r]; rfl
theorem badA_any (k : Int) : ∀ l, badA k l = l.any (fun a => badL k a.2)
  | [] => rfl
  | (_, b) :: r => by rw [badA, badA_any k r]; rfl
theorem badS_eq (k : Int) (s : FS) : badS k s = (callBad k s || s.arms.any (fun a => badL k a.2)) := by
  cases s
  rw [badS, badA_any]; rfl

def rd0 (l : List Int) (i : Int) : Int := l.getD i.toNat 0
/-- A function's own part of what is asked. -/
def flagBad (f : FF) (n : Int) : Bool := decide (n < 0) || decide (n ≥ f.cells)
def cellsAt (l : List FF) (i : Int) : Int := (l[i.toNat]?.map FF.cells).getD 0
def partBad (l : List FF) (k : Nat) (f : FF) (p : S103) : Bool :=
  decide (p.f1 < 0) || decide (p.f1 ≥ (k : Int)) || decide (p.f0 < 0) || decide (p.f0 > f.cells) || decide (cellsAt l p.f1 > f.cells - p.f0)
def headBad (k : Nat) (f : FF) : Bool := decide (f.cells < 0) || decide (f.cells > 1000) || badL (k : Int) f.body
def funBad (l : List FF) (k : Nat) (f : FF) : Bool := headBad k f || f.flags.any (flagBad f) || f.parts.any (partBad l k f)
/-- Some function, from the k-th on, isn't as it should be. -/
def anyBad (l : List FF) (k : Nat) : List FF → Bool
  | [] => false
  | f :: r => funBad l k f || anyBad l (k + 1) r
/-- A flat program may be run, but for its weight. -/
def flatOk (l : List FF) : Bool := !anyBad l 0 l && decide (0 < l.length)
/-- Programs of a size that a machine can hold. -/
structure FlatSmall (l : List FF) : Prop where
  len : l.length ≤ 1099511627744
  body : ∀ f ∈ l, Small f.body
  blen : ∀ f ∈ l, (f.body.length + 1) * 192 ≤ 140737488355328
end Go.Proofs.YticndoihkfbpoaaGreatDoor
namespace Go.Proofs.YticndoihkfbpoaaGreatDoor
open Go Go.RowKit Go.Lib Go.Proofs.YticndoihkfbpoaaGreatDoorW.PrintWords Go.Proofs.YticndoihkfbpoaaGreatDoor.PScope
set_option maxRecDepth 100000
set_option linter.unusedSimpArgs false
set_option linter.unusedVariables false

def Enters (n : Nat) : Prop := ∀ args w, (callFunc n args).run Tryz.prog w = .ok (.enter n args) w
theorem arith_calls (n : Nat) (hn : arithB n = true) : Enters n ∧ ∀ (a b : Int) (w : World), Calls Tryz.prog n #[.int .i64 a, .int .i64 b] w fun e w' => e = .returned (.int .i64 (arithV n a b)) ∧ w' = w := by
  unfold arithB at hn
  simp only [List.contains_cons, List.contains_nil, Bool.or_false, Bool.or_eq_true, beq_iff_eq] at hn
  rcases hn with rfl | rfl | rfl | rfl | rfl
  · exact ⟨enters_of Tryz.func188 (by kernel_rfl) rfl, of1_calls⟩
  · exact ⟨enters_of Tryz.func189 (by kernel_rfl) rfl, of2_calls⟩
  · exact ⟨enters_of Tryz.func190 (by kernel_rfl) rfl, of3_calls⟩
  · exact ⟨enters_of Tryz.func191 (by kernel_rfl) rfl, of4_calls⟩
  · exact ⟨enters_of Tryz.func193 (by kernel_rfl) rfl, of5_calls⟩
def cmpB (n : Nat) : Bool := [195, 196, 197, 198, 199, 200].contains n
theorem cmp_calls (n : Nat) (hn : cmpB n = true) : Enters n ∧ ∀ (a b : Int) (w : World), Calls Tryz.prog n #[.int .i64 a, .int .i64 b] w fun e w' => e = .returned (.bool (cmpV n a b)) ∧ w' = w := by
  unfold cmpB at hn
  simp only [List.contains_cons, List.contains_nil, Bool.or_false, Bool.or_eq_true, beq_iff_eq] at hn
  rcases hn with rfl | rfl | rfl | rfl | rfl | rfl
  · exact ⟨enters_of Tryz.func195 (by kernel_rfl) rfl, of6_calls⟩
  · exact ⟨enters_of Tryz.func196 (by kernel_rfl) rfl, of7_calls⟩
  · exact ⟨enters_of Tryz.func197 (by kernel_rfl) rfl, of8_calls⟩
  · exact ⟨enters_of Tryz.func198 (by kernel_rfl) rfl, of9_calls⟩
  · exact ⟨enters_of Tryz.func199 (by kernel_rfl) rfl, of10_calls⟩
  · exact ⟨enters_of Tryz.func200 (by kernel_rfl) rfl, of11_calls⟩
theorem opNum_kind {s : ByteArray} {n : Nat} (h : opNum s = some n) : arithB n = true ∨ cmpB n = true := by
  unfold opNum at h
  obtain ⟨x, hx, rfl⟩ := Option.map_eq_some_iff.1 h
  have hm := List.mem_of_find?_eq_some hx
  have hall : (opTab.all fun x => arithB x.2 || cmpB x.2) = true := by decide
  have := List.all_eq_true.1 hall x hm
  rwa [Bool.or_eq_true] at this
theorem compares1_calls (n : Nat) (hn : cmpB n = true) (a b : Int) (bk : Nat) (w : World) (hb : w.heap[bk]? = some (.cells #[.func (.func n) #[] #[]] 217 (0, 0))) :
    Calls Tryz.prog 218 #[.int .i64 a, .int .i64 b, .pointer (some ⟨bk, 0, none⟩)] w fun e w' => e = .returned (.int .i64 (truV (cmpV n a b))) ∧ w' = w := by
  obtain ⟨en, hc⟩ := cmp_calls n hn
  have x0 := (blk_cell hb 0).trans rfl
  have hcc := hc a b
  have ht := truth_calls (cmpV n a b)
  clear hb hc hn
  generalize cmpV n a b = q at hcc ht ⊢
  generalize truV q = t at ht ⊢
  unfold Enters at en
  go_enter Tryz.func218, Tryz.ntmps218
  go_wp2_with (go_at_fn n; refine (hcc w).mono ?_; rintro e w1 ⟨rfl, rfl⟩; clear hcc)
  refine (ht _).mono ?_
  rintro e w1 ⟨rfl, rfl⟩
  clear ht
  go_wp2_with fail
  go_ret
  exact ⟨rfl, rfl⟩
theorem compares1_eg : Enters 218 := enters_of Tryz.func218 (by kernel_rfl) rfl
theorem binV_none {s : ByteArray} (h : opNum s = none) (a b : Int) : binV s a b = (0, 10) := by unfold binV; rw [h]
theorem binV_some {s : ByteArray} {n : Nat} (h : opNum s = some n) (a b : Int) : binV s a b = (if arithB n then arithV n a b else truV (cmpV n a b), 0) := by unfold binV; rw [h]; rfl
set_option maxHeartbeats 2000000 in
theorem bin_calls (s : ByteArray) (a b : Int) (w : World) : Calls Tryz.prog 141 #[.string s, .int .i64 a, .int .i64 b] w fun e w' => e = .returned (.tuple #[.int .i64 (binV s a b).1, .int .i64 (binV s a b).2]) ∧ Below w.heap.size w w' := by
  have hof := of_calls s w
  have hrn := fun W => run_eql_nilfunc W 210 Tryz.underlying210
  have hrf := fun W f c => run_eql_func W 210 f #[] c Tryz.underlying210
  obtain ⟨R, hR⟩ : ∃ R, binV s a b = R := ⟨_, rfl⟩
  rw [hR]
  have HR := Aside0.mk hR
  clear hR
  go_enter Tryz.func141, Tryz.ntmps141
  go_wp2_with fail
  refine hof.mono ?_
  rintro e w1 ⟨F, t1, t2, rfl, hop, hb⟩
  have HB := Aside0.mk hb
  clear hof hb
  rcases hop with ⟨h0, rfl⟩ | ⟨n, h0, h1, rfl⟩ | ⟨n, bk, h0, h1, rfl, h2⟩
  · have HV := Aside0.mk (show R = (0, 10) by rw [← HR.out]; exact binV_none h0 a b)
    clear h0 hrf
    go_wp2_with ((with_reducible refine gate_store (t := 213) (p := 8) rfl ?_); refine store_whole rfl rfl 213 _ _ rfl w1.heap.size _ 213 rfl (blk_new _ _) _ rfl rfl rfl (by simp [Value.oneCell']) ?_; intro w2 hb2 hg2; replace HB := Aside0.mk (below_as HB.out hg2); have c0 := (blk_cell hb2 0).trans rfl; clear hb2 hg2)
    go_ret2
    exact ⟨by rw [HV.out]; rfl, HB.out⟩
  · obtain ⟨en, hc⟩ := arith_calls n h1
    have HV := Aside0.mk (show R = (arithV n a b, 0) by rw [← HR.out, binV_some h0, h1]; rfl)
    have hcc := hc a b
    unfold Enters at en
    generalize arithV n a b = t at hcc HV
    clear h0 h1 hc hrn
    go_wp2_with (first | ((with_reducible refine gate_store (t := 213) (p := 8) rfl ?_); refine store_whole rfl rfl 213 _ _ rfl w1.heap.size _ 213 rfl (blk_new _ _) _ rfl rfl rfl (by simp [Value.oneCell']) ?_; intro w2 hb2 hg2; replace HB := Aside0.mk (below_as HB.out hg2); have c0 := (blk_cell hb2 0).trans rfl; clear hb2 hg2) | (go_at_fn n; refine (hcc _).mono ?_; rintro e w4 ⟨rfl, rfl⟩; clear hcc))
    go_ret2
    exact ⟨by rw [HV.out]; rfl, HB.out⟩
  · have hk : cmpB n = true := by
      rcases opNum_kind h0 with h | h
      · rw [h1] at h; cases h
      · exact h
    have HV := Aside0.mk (show R = (truV (cmpV n a b), 0) by rw [← HR.out, binV_some h0, h1]; rfl)
    have hcc := fun (W : World) (hb : W.heap[bk]? = some (.cells #[.func (.func n) #[] #[]] 217 (0, 0))) => compares1_calls n hk a b bk W hb
    have en := compares1_eg
    unfold Enters at en
    generalize truV (cmpV n a b) = t at hcc HV
    have H2 := Aside0.mk h2
    clear h0 h1 h2 hk hrn
    go_wp2_with ((with_reducible refine gate_store (t := 213) (p := 8) rfl ?_); refine store_whole rfl rfl 213 _ _ rfl w1.heap.size _ 213 rfl (blk_new _ _) _ rfl rfl rfl (by simp [Value.oneCell']) ?_; intro w2 hb2 hg2; replace H2 := Aside0.mk (blk_as H2.out hg2); replace HB := Aside0.mk (below_as HB.out hg2); have c0 := (blk_cell hb2 0).trans rfl; clear hb2 hg2)
    refine (hcc _ H2.out).mono ?_
    rintro e w4 ⟨rfl, rfl⟩
    clear hcc
    go_wp2_with fail
    go_ret2
    exact ⟨by rw [HV.out]; rfl, HB.out⟩
end Go.Proofs.YticndoihkfbpoaaGreatDoor
