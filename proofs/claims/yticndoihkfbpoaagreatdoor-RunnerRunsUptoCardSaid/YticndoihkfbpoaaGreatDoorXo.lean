/- What the rows share: the laid variables of strconv and unicode/utf8 that package reread's numbers and words read; a start that fits. -/
import Derived.Test.YticndoihkfbpoaaGreatDoorTie
import Derived.Lib.LaidTab
import Derived.ProofKit
import Derived.OpenShut
import Derived.ShutString
import Derived.ChangeOld
import Derived.SizedLaws
import Derived.LaidMore
import Derived.Lay
import Derived.LaidLaws
import Derived.Stop.Joined
import Derived.Stop.LaidErr
import Derived.Deep.Slices
import Derived.ChangeArms
import Derived.Test.YticndoihkfbpoaaGreatDoorVc
namespace Go.Proofs.YticndoihkfbpoaaGreatDoor
open Go Go.ChangeShapes Go.WideShapes Go.ChangeAt Go.RowKit
set_option maxRecDepth 100000
set_option linter.unusedVariables false
def laidAll : List (String × DataW Unit) := [("math/bits.deBruijn32tab", Rows.laid_math_bits_deBruijn32tab), ("math/bits.deBruijn64tab", Rows.laid_math_bits_deBruijn64tab), ("internal/strconv.uint64pow10", Rows.laid_internal_strconv_uint64pow10), ("unicode/utf8.acceptRanges", Rows.laid_unicode_utf8_acceptRanges), ("strconv.ErrRange", Rows.laid_strconv_ErrRange), ("strconv.ErrSyntax", Rows.laid_strconv_ErrSyntax), ("unicode/utf8.first", Rows.laid_unicode_utf8_first)]
theorem ownKnobNone : ownKnob Tryz.prog.godebug = none := by kernel_rfl
theorem gER : Tryz.prog.globalNamed "strconv.ErrRange" = some 4 := by kernel_rfl
theorem gERType : (Tryz.prog.globals[4]?).map (·.type) = some 158 := by kernel_rfl
theorem gES : Tryz.prog.globalNamed "strconv.ErrSyntax" = some 3 := by kernel_rfl
theorem gESType : (Tryz.prog.globals[3]?).map (·.type) = some 158 := by kernel_rfl
theorem gPowType : (Tryz.prog.globals[5]?).map (·.type) = some 248 := by kernel_rfl
theorem gFst : Tryz.prog.globalNamed "unicode/utf8.first" = some 0 := by kernel_rfl
theorem gFstType : (Tryz.prog.globals[0]?).map (·.type) = some 201 := by kernel_rfl
theorem gAcc : Tryz.prog.globalNamed "unicode/utf8.acceptRanges" = some 1 := by kernel_rfl
theorem gAccType : (Tryz.prog.globals[1]?).map (·.type) = some 204 := by kernel_rfl
theorem cellsE : Tryz.prog.cellsOf 258 = 1 := by kernel_rfl
theorem cellsStr : Tryz.prog.cellsOf 9 = 1 := by kernel_rfl
theorem starE : "*" ++ "errors.errorString" = "*errors.errorString" := by decide
theorem rowE (u : TypeId) (h : Tryz.prog.typeName? 3 u = some "*errors.errorString") : u = 256 :=
 typeName_ptr_named (nm := "errors.errorString") (by rw [starE]; kernel_rfl) (by kernel_rfl) (by decide) u (by rw [starE]; exact h)
theorem pow_eq : Rows.laid_internal_strconv_uint64pow10 (H := Unit) = Lib.tabData .u64 Lib.pow10Tab := by kernel_rfl
def firstZ : List Int := (List.range 256).map (fun c => ((Lib.firstT c : Nat) : Int))
theorem first_eq : Rows.laid_unicode_utf8_first = Lib.tabData .u8 firstZ := by kernel_rfl
def accZ : List (Int × Int) := (List.range 16).map (fun i => (((Lib.accLo i : Nat) : Int), ((Lib.accHi i : Nat) : Int)))
def pairData {H : Type} (zs : List (Int × Int)) : DataW H := .agg (zs.map fun z => .agg [.lit (.int .u8 z.1), .lit (.int .u8 z.2)])
theorem acc_eq : Rows.laid_unicode_utf8_acceptRanges (H := Unit) = pairData accZ := by kernel_rfl
theorem cells_of_pairs {H : Type} {enc : TypeId × Value → H} {P : Program} {w : World} {base : Nat} {sp : Nat → Bool} {held : Bool} {fuel : Nat} {t e u n : Nat} {fs : Array Field} {cs : List Value} {zs : List (Int × Int)} {p : List MemPlace}
  (ht : P.underlying t = some (.array n e)) (he : P.underlying e = some (.struct fs)) (hfs : fs.toList.map (·.type) = [u, u]) (hu : P.underlying u = some (.int .u8)) (hcu : P.cellsOf u = 1) (hce : P.cellsOf e = 2) (hct : P.cellsOf t = n * 2) (hoff : fs.toList.map (·.offset) = [0, 1])
  (h : DataW.trod enc P w base sp held fuel t cs = some (pairData zs, p)) : ∀ i, i < n → ∀ z, zs[i]? = some z → cs[i * 2]? = some (.int .u8 z.1) ∧ cs[i * 2 + 1]? = some (.int .u8 z.2) := by
 cases fuel with
 | zero => simp [DataW.trod] at h
 | succ fuel =>
  simp only [DataW.trod, ht, hce, hct] at h
  split at h
  ·rename_i hl
   obtain ⟨xs, hm, hx⟩ := Option.map_eq_some_iff.1 h
   have hxs : xs.map (·.1) = zs.map fun z => (DataW.agg [.lit (.int .u8 z.1), .lit (.int .u8 z.2)] : DataW H) := by
    have := congrArg Prod.fst hx
    simpa [pairData] using this
   intro i hi z hz
   obtain ⟨b, hb, hf⟩ := Lib.mapM_at hm i i (by simp [hi])
   have h2 : (xs.map (·.1))[i]? = some b.1 := by simp [hb]
   rw [hxs] at h2
   simp only [List.getElem?_map, hz, Option.map_some, Option.some.injEq] at h2
   obtain ⟨ys, m, hmm, hbb, hl2, hyl, hfld⟩ := DataW.trod_struct he hf
   have hy : ys.map (·.1) = [DataW.lit (.int .u8 z.1), .lit (.int .u8 z.2)] := by
    rw [hbb] at h2
    simp only [DataW.agg.injEq] at h2
    exact h2.symm
   obtain ⟨y0, y1, rfl⟩ : ∃ y0 y1, ys = [y0, y1] := by
    have hln := congrArg List.length hy
    rw [List.length_map] at hln
    match ys, hln with
    | [a, b], _ => exact ⟨a, b, rfl⟩
   focus
    simp only [List.map_cons, List.map_nil, List.cons.injEq, and_true] at hy
    obtain ⟨f0, f1, hff⟩ : ∃ f0 f1, fs.toList = [f0, f1] := by
     have hln := congrArg List.length hfs
     simp at hln
     match hq : fs.toList, hln with
     | [f0, f1], _ => exact ⟨f0, f1, rfl⟩
     | [], h => rw [← Array.length_toList, hq] at h; simp at h
     | [a], h => rw [← Array.length_toList, hq] at h; simp at h
     | a :: b :: c :: r, h => rw [← Array.length_toList, hq] at h; simp at h
    rw [hff] at hfs hoff
    simp only [List.map_cons, List.map_nil, List.cons.injEq, and_true] at hfs hoff
    have k0 := (hfld 0 f0 (by rw [← Array.getElem?_toList, hff]; rfl)).trans (rfl : [y0, y1][0]? = some y0)
    have k1 := (hfld 1 f1 (by rw [← Array.getElem?_toList, hff]; rfl)).trans (rfl : [y0, y1][1]? = some y1)
    rw [hfs.1, hcu, hoff.1] at k0
    rw [hfs.2, hcu, hoff.2] at k1
    obtain ⟨z0, e0, rfl, _⟩ := DataW.trod_int hu k0
    obtain ⟨z1, e1, rfl, _⟩ := DataW.trod_int hu k1
    simp only [DataW.lit.injEq, Lit.int.injEq, true_and] at hy
    obtain ⟨rfl, rfl⟩ := hy
    constructor
    ·have := congrArg (·[0]?) e0
     simpa [List.getElem?_take, List.getElem?_drop] using this
    ·have := congrArg (·[0]?) e1
     simpa [List.getElem?_take, List.getElem?_drop] using this
  ·cases h
theorem acc_of_head {W : World} {rest : List (String × DataW Unit)} (h : laidMet Tryz.prog (("unicode/utf8.acceptRanges", pairData accZ) :: rest) W) : ∀ i, i < 16 → W.cell? ⟨1, 2 * i, none⟩ = some (.int .u8 (Lib.accLo i)) ∧ W.cell? ⟨1, 2 * i + 1, none⟩ = some (.int .u8 (Lib.accHi i)) := by
 obtain ⟨ps, ⟨g', t', cs, fuel, p, q, hg', ht', hvar, hd, _, _⟩, _⟩ := h
 obtain rfl := Option.some.inj (gAcc.symm.trans hg')
 obtain rfl := Option.some.inj (gAccType.symm.trans ht')
 intro i hi
 have hz : accZ[i]? = some (((Lib.accLo i : Nat) : Int), ((Lib.accHi i : Nat) : Int)) := by
  unfold accZ
  rw [List.getElem?_map, List.getElem?_range hi]; rfl
 have hc := cells_of_pairs (n := 16) Tryz.underlying204 Tryz.underlying203 rfl Tryz.underlying5 (by kernel_rfl) (by kernel_rfl) (by kernel_rfl) rfl hd i hi _ hz
 have h0 := World.var?_cell gAcc hvar (i * 2)
 have h1 := World.var?_cell gAcc hvar (i * 2 + 1)
 rw [show 2 * i = i * 2 by omega]
 refine ⟨h0.trans ?_, h1.trans ?_⟩
 ·simpa using hc.1
 ·simpa using hc.2
theorem laidH_plain (w : World) : laidMetH Tryz.prog laidAll w = laidMet Tryz.prog laidAll w := MakeChecks.laidMetH_plain _ _ _ (by kernel_rfl)
theorem laidR_of_met {W : World} (h : laidMetH Tryz.prog laidAll W) : LaidR W := by
 rw [laidH_plain] at h
 have h2 := h.tail.tail
 have h3 := h2.tail
 have h4 := h3.tail
 have h5 := h4.tail
 have h6 := h5.tail
 obtain ⟨a1, s1, hv1, -, -, -⟩ := laid_sentinel h4 gER gERType Tryz.underlying158 rowE Tryz.underlying256 Tryz.underlying258 rfl rfl Tryz.underlying9 cellsE cellsStr
 obtain ⟨a2, s2, hv2, -, -, -⟩ := laid_sentinel h5 gES gESType Tryz.underlying158 rowE Tryz.underlying256 Tryz.underlying258 rfl rfl Tryz.underlying9 cellsE cellsStr
 refine ⟨⟨_, by have h0 := World.var?_cell gES hv2 0; simpa using h0, Or.inr ⟨_, _, rfl⟩⟩, ⟨_, by have h0 := World.var?_cell gER hv1 0; simpa using h0, Or.inr ⟨_, _, rfl⟩⟩, ?_, ?_, ?_⟩
 ·rw [show Rows.laid_internal_strconv_uint64pow10 (H := Unit) = Lib.tabData .u64 Lib.pow10Tab from pow_eq] at h2
  exact Lib.tabIs_of_head gPow gPowType Tryz.underlying248 Tryz.underlying197 (by kernel_rfl) (by kernel_rfl) h2
 ·rw [first_eq] at h6
  have ht := Lib.tabIs_of_head gFst gFstType Tryz.underlying201 Tryz.underlying5 (by kernel_rfl) (by kernel_rfl) h6
  intro c hc
  have := ht.cell gFst c (by unfold firstZ; simpa using hc)
  rw [this]
  unfold firstZ
  rw [List.getD_eq_getElem?_getD, List.getElem?_map, List.getElem?_range hc]; rfl
 ·rw [acc_eq] at h3
  exact acc_of_head h3
theorem laidFits (os : Os) (args : Array Value) : laidMetH Tryz.prog laidAll ((World.laidAll Tryz.prog os laidAll).forCall (fun _ _ => 0) ⟨#[], args, []⟩).memory := by
 rw [laidH_plain]; exact laidMet_laidAll _ (by kernel_rfl) (by kernel_rfl)
end Go.Proofs.YticndoihkfbpoaaGreatDoor
namespace Go.Proofs.YticndoihkfbpoaaGreatDoor
open Go Go.ChangeShapes Go.Deep Go.RowKit Go.Lib Go.Proofs.YticndoihkfbpoaaGreatDoorW.PrintWords Go.Proofs.YticndoihkfbpoaaGreatDoor.PScope
set_option maxRecDepth 100000
set_option linter.unusedSimpArgs false
set_option linter.unusedVariables false
theorem cells_int : Tryz.prog.cellsOf 3 = 1 := by kernel_rfl
theorem cells_int64 : Tryz.prog.cellsOf 2 = 1 := by kernel_rfl
theorem cells_string : Tryz.prog.cellsOf 9 = 1 := by kernel_rfl
theorem cells_Expr : Tryz.prog.cellsOf 38 = 5 := by kernel_rfl
theorem cells_FStmt : Tryz.prog.cellsOf 41 = 12 := by kernel_rfl
theorem cells_FArm : Tryz.prog.cellsOf 147 = 2 := by kernel_rfl
theorem cells_Part : Tryz.prog.cellsOf 103 = 2 := by kernel_rfl
theorem cells_Func : Tryz.prog.cellsOf 35 = 6 := by kernel_rfl
theorem cells_rS : Tryz.prog.cellsOf 31 = 1 := by kernel_rfl
theorem cells_rE : Tryz.prog.cellsOf 36 = 1 := by kernel_rfl
theorem cells_rA : Tryz.prog.cellsOf 39 = 1 := by kernel_rfl
theorem cells_rF : Tryz.prog.cellsOf 30 = 1 := by kernel_rfl
theorem cells_rI : Tryz.prog.cellsOf 32 = 1 := by kernel_rfl
theorem cells_rP : Tryz.prog.cellsOf 33 = 1 := by kernel_rfl
theorem cells_rU : Tryz.prog.cellsOf 22 = 1 := by kernel_rfl
theorem bytes_FStmt : Tryz.prog.bytesOf 41 = 192 := by kernel_rfl
theorem bytes_FArm : Tryz.prog.bytesOf 147 = 32 := by kernel_rfl
theorem bytes_Func : Tryz.prog.bytesOf 35 = 128 := by kernel_rfl
abbrev Fits {H : Type} (t : Nat) (d : DataW H) : Prop := (d.weights Tryz.prog t).all (· ≤ reachBytes) = true
theorem open_listS {H α : Type} {P : Nat → α → Prop} (Q : α → Prop) (e : Nat) (els : List (DataW H × List MemPlace)) : ∀ (off : Nat), (∀ i (hi : i < els.length), ∃ z, P (off + i) z ∧ (Fits e (els[i]'hi).1 → Q z)) →
  ∃ l : List α, l.length = els.length ∧ (∀ i z, l[i]? = some z → P (off + i) z) ∧ ((DataW.weightsAll Tryz.prog e (els.map (·.1))).all (· ≤ reachBytes) = true → ∀ z ∈ l, Q z) := by
 induction els with
 | nil => intro off _; exact ⟨[], rfl, fun i z h => by simp at h, fun _ z hz => by simp at hz⟩
 | cons x r ih =>
  intro off h
  obtain ⟨z, hz, hw⟩ := h 0 (by simp)
  obtain ⟨l, h1, h2, h3⟩ := ih (off + 1) (fun i hi => by
   obtain ⟨y, hy, hw⟩ := h (i + 1) (by simp; omega)
   exact ⟨y, by rw [show off + 1 + i = off + (i + 1) by omega]; exact hy, by simpa using hw⟩)
  refine ⟨z :: l, by simp [h1], fun i y hy => ?_, fun hf => ?_⟩
  ·cases i with
   | zero => simp at hy; subst hy; exact hz
   | succ i => have := h2 i y (by simpa using hy); rw [show off + (i + 1) = off + 1 + i by omega]; exact this
  ·simp only [List.map_cons, DataW.weightsAll, List.all_append, Bool.and_eq_true] at hf
   intro y hy
   rcases List.mem_cons.1 hy with rfl | hy
   ·exact hw hf.1
   ·exact h3 hf.2 y hy
theorem field_fits {H : Type} {t : Nat} {fs : Array Field} {parts : List (DataW H)} (ht : Tryz.prog.underlying t = some (.struct fs)) (h : Fits t (DataW.agg parts)) {j u : Nat} {d : DataW H} (hj : (fs.toList.map (·.type))[j]? = some u) (hd : parts[j]? = some d) : Fits u d := by
 unfold Fits at h ⊢
 rw [DataW.weights, ht] at h
 exact List.all_eq_true.2 (fun n hn => List.all_eq_true.1 h n (DataW.weights_mem_each hj hd n hn))
section
variable {H : Type} {enc : TypeId × Value → H} {w : World} {base : Nat} {spare : Nat → Bool} {held : Bool}
theorem open_rowS {α : Type} {d : Kd α} (Q : α → Prop) {e t : TypeId} {fuel : Nat} {cs : List Value} {x : DataW H × List MemPlace} (ht : Tryz.prog.underlying t = some (.slice e)) (hsz : Tryz.prog.cellsOf e = d.sz)
  (hel : ∀ n, n < fuel → ∀ cs' y, DataW.trod enc Tryz.prog w base spare held n e cs' = some y → ∃ z, d.K w z cs' ∧ (Fits e y.1 → Q z))
  (h : DataW.trod enc Tryz.prog w base spare held fuel t cs = some x) : ∃ A l c, cs = [.slice A (List.length l) c] ∧ l.length ≤ c ∧ d.C w A l.length l ∧ (Fits t x.1 → l.length * Tryz.prog.bytesOf e ≤ reachBytes ∧ ∀ z ∈ l, Q z) := by
 rcases DataW.trod_slice ht h with ⟨rfl, rfl⟩ | ⟨a, len, cap, elems, rest, n, hn, rfl, rfl, hb, hl, hm, hlen, hel', _, _⟩
 ·exact ⟨none, [], 0, rfl, Nat.le_refl _, Kd.C_nil _ _, fun _ => ⟨by simp, fun z hz => by simp at hz⟩⟩
 ·obtain ⟨l, h1, h2, h3⟩ := open_listS (P := fun i z => ∃ cs', d.K w z cs' ∧ ∀ j u, cs'[j]? = some u → w.cell? (a.add (i * d.sz + j)) = some u) Q e elems 0 (fun i hi => by
   have hk := hel' i (by omega)
   rw [List.getElem?_eq_getElem hi] at hk
   obtain ⟨cs', k1, k2⟩ := Option.bind_eq_some_iff.1 hk
   obtain ⟨z, hz, hw⟩ := hel n (by omega) cs' _ k2
   obtain ⟨_, hlc, hcell⟩ := World.cells?_some k1
   refine ⟨z, ⟨cs', hz, fun j u hj => ?_⟩, hw⟩
   have hjl : j < cs'.length := (List.getElem?_eq_some_iff.mp hj).1
   have hjs : j < Tryz.prog.cellsOf e := by rw [hsz]; rw [d.K_len hz] at hjl; exact hjl
   have := hcell j hjs
   rw [Deep.add_add, hsz] at this
   rw [Nat.zero_add, this]
   exact hj)
  refine ⟨some a, l, cap, by rw [h1, hlen], by omega, ⟨rfl, by unfold maxLen at hm; omega, fun _ => ⟨a, rfl, fun j q hj => ?_⟩⟩, fun hf => ?_⟩
  ·obtain ⟨cs', hK, hc⟩ := h2 j q hj
   refine ⟨cs', d.K_len hK, hK, fun i u hu => ?_⟩
   have := hc i u hu
   rw [Nat.zero_add] at this
   exact this
  ·unfold Fits at hf
   rw [DataW.weights, ht] at hf
   simp only [List.all_cons, List.all_append, Bool.and_eq_true, decide_eq_true_eq] at hf
   refine ⟨?_, h3 hf.2.1⟩
   rw [h1]
   refine Nat.le_trans ?_ hf.1
   rw [List.length_map]
   exact Nat.mul_le_mul_right _ (Nat.le_add_right _ _)
theorem open_str {fuel : Nat} {cs : List Value} {x : DataW H × List MemPlace} (h : DataW.trod enc Tryz.prog w base spare held fuel 9 cs = some x) : ∃ z : ByteArray, Kd.string.K w z cs ∧ (Fits 9 x.1 → True) := by
 obtain ⟨z, rfl, rfl, _⟩ := DataW.trod_string Tryz.underlying9 h
 exact ⟨z, rfl, fun _ => trivial⟩
theorem open_num {fuel : Nat} {cs : List Value} {x : DataW H × List MemPlace} (h : DataW.trod enc Tryz.prog w base spare held fuel 3 cs = some x) : ∃ z : Int, (Kd.int .i64).K w z cs ∧ (Fits 3 x.1 → True) := by
 obtain ⟨z, rfl, _, _⟩ := DataW.trod_int Tryz.underlying3 h
 exact ⟨z, rfl, fun _ => trivial⟩
theorem open_partF (fuel : Nat) : ∀ (cs : List Value) (x : DataW H × List MemPlace), DataW.trod enc Tryz.prog w base spare held fuel 103 cs = some x → ∃ z : S103, kPt.K w z cs ∧ (Fits 103 x.1 → True) := by
 intro cs x h
 obtain ⟨xs, n, hn, rfl, hl, hxl, hf⟩ := DataW.trod_struct Tryz.underlying103 h
 rw [cells_Part] at hl
 match cs, hl, xs, hxl with
 | [v0, v1], _, [y0, y1], _ =>
  have g0 := hf 0 _ rfl
  have g1 := hf 1 _ rfl
  simp only [cells_int, List.drop_zero, List.drop_succ_cons, List.take_succ_cons, List.take_zero, List.getElem?_cons_zero, List.getElem?_cons_succ] at g0 g1
  obtain ⟨z0, e0, _, _⟩ := DataW.trod_int Tryz.underlying3 g0
  obtain rfl := (List.cons.inj e0).1
  obtain ⟨z1, e1, _, _⟩ := DataW.trod_int Tryz.underlying3 g1
  obtain rfl := (List.cons.inj e1).1
  exact ⟨⟨z0, z1⟩, k103_mk w ⟨z0, z1⟩, fun _ => trivial⟩
def HoldS (s : FS) : Prop := s.arms.length ≤ 8796093022208 ∧ ∀ a ∈ s.arms, Small a.2
theorem small_of {l : List FS} (h : l.length * 192 ≤ reachBytes ∧ ∀ z ∈ l, HoldS z) : Small l := ⟨l, by have := h.1; unfold reachBytes at this; omega, fun s hs => (h.2 s hs).1, fun s hs => (h.2 s hs).2⟩
def HoldF (f : FF) : Prop := Small f.body ∧ (f.body.length + 2) * 192 ≤ 140737488355328
end
end Go.Proofs.YticndoihkfbpoaaGreatDoor
namespace Go.Proofs.YticndoihkfbpoaaGreatDoor
open Go Go.ChangeShapes Go.Deep Go.RowKit Go.Lib Go.Proofs.YticndoihkfbpoaaGreatDoorW.PrintWords Go.Proofs.YticndoihkfbpoaaGreatDoor.PScope
set_option maxRecDepth 100000
set_option linter.unusedSimpArgs false
set_option linter.unusedVariables false
theorem bytes_string : Tryz.prog.bytesOf 9 = 16 := by kernel_rfl
theorem cells_rL : Tryz.prog.cellsOf 49 = 1 := by kernel_rfl
section
variable {H : Type} {enc : TypeId × Value → H} {w : World} {base : Nat} {spare : Nat → Bool} {held : Bool}
def HoldG (f : FF) : Prop := HoldF f ∧ f.params.length ≤ 8796093022208 ∧ f.results.length ≤ 8796093022208
end
end Go.Proofs.YticndoihkfbpoaaGreatDoor
