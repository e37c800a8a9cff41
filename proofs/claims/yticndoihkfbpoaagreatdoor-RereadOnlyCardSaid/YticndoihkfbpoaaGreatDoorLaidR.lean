/- What the rows share: the laid variables of strconv and unicode/utf8 that package reread's numbers and words read; a start that fits. -/
import Derived.Test.YticndoihkfbpoaaGreatDoorUc
import Derived.Test.YticndoihkfbpoaaGreatDoorTie
import Derived.Lib.LaidTab
import Derived.ProofKit
import Derived.OpenShut
import Derived.ShutString
import Derived.ChangeOld
import Derived.SizedLaws
import Derived.LaidMore
import Derived.Lay
import Derived.LaidLaws
import Derived.Stop.Joined
import Derived.Stop.LaidErr
namespace Go.Proofs.YticndoihkfbpoaaGreatDoor
open Go Go.ChangeShapes Go.WideShapes Go.ChangeAt Go.RowKit
set_option maxRecDepth 100000
set_option linter.unusedVariables false
def laidAll : List (String × DataW Unit) := [("math/bits.deBruijn32tab", Rows.laid_math_bits_deBruijn32tab), ("math/bits.deBruijn64tab", Rows.laid_math_bits_deBruijn64tab), ("internal/strconv.uint64pow10", Rows.laid_internal_strconv_uint64pow10), ("unicode/utf8.acceptRanges", Rows.laid_unicode_utf8_acceptRanges), ("strconv.ErrRange", Rows.laid_strconv_ErrRange), ("strconv.ErrSyntax", Rows.laid_strconv_ErrSyntax), ("unicode/utf8.first", Rows.laid_unicode_utf8_first)]
theorem ownKnobNone : ownKnob Tryz.prog.godebug = none := by kernel_rfl
theorem gER : Tryz.prog.globalNamed "strconv.ErrRange" = some 4 := by kernel_rfl
theorem gERType : (Tryz.prog.globals[4]?).map (·.type) = some 158 := by kernel_rfl
theorem gES : Tryz.prog.globalNamed "strconv.ErrSyntax" = some 3 := by kernel_rfl
theorem gESType : (Tryz.prog.globals[3]?).map (·.type) = some 158 := by kernel_rfl
theorem gPowType : (Tryz.prog.globals[5]?).map (·.type) = some 248 := by kernel_rfl
theorem gFst : Tryz.prog.globalNamed "unicode/utf8.first" = some 0 := by kernel_rfl
theorem gFstType : (Tryz.prog.globals[0]?).map (·.type) = some 201 := by kernel_rfl
theorem gAcc : Tryz.prog.globalNamed "unicode/utf8.acceptRanges" = some 1 := by kernel_rfl
theorem gAccType : (Tryz.prog.globals[1]?).map (·.type) = some 204 := by kernel_rfl
theorem cellsE : Tryz.prog.cellsOf 258 = 1 := by kernel_rfl
theorem cellsStr : Tryz.prog.cellsOf 9 = 1 := by kernel_rfl
theorem starE : "*" ++ "errors.errorString" = "*errors.errorString" := by decide
theorem rowE (u : TypeId) (h : Tryz.prog.typeName? 3 u = some "*errors.errorString") : u = 256 :=
 typeName_ptr_named (nm := "errors.errorString") (by rw [starE]; kernel_rfl) (by kernel_rfl) (by decide) u (by rw [starE]; exact h)
theorem pow_eq : Rows.laid_internal_strconv_uint64pow10 (H := Unit) = Lib.tabData .u64 Lib.pow10Tab := by kernel_rfl
def firstZ : List Int := (List.range 256).map (fun c => ((Lib.firstT c : Nat) : Int))
theorem first_eq : Rows.laid_unicode_utf8_first = Lib.tabData .u8 firstZ := by kernel_rfl
def accZ : List (Int × Int) := (List.range 16).map (fun i => (((Lib.accLo i : Nat) : Int), ((Lib.accHi i : Nat) : Int)))
def pairData {H : Type} (zs : List (Int × Int)) : DataW H := .agg (zs.map fun z => .agg [.lit (.int .u8 z.1), .lit (.int .u8 z.2)])
theorem acc_eq : Rows.laid_unicode_utf8_acceptRanges (H := Unit) = pairData accZ := by kernel_rfl
theorem cells_of_pairs {H : Type} {enc : TypeId × Value → H} {P : Program} {w : World} {base : Nat} {sp : Nat → Bool} {held : Bool} {fuel : Nat} {t e u n : Nat} {fs : Array Field} {cs : List Value} {zs : List (Int × Int)} {p : List MemPlace}
  (ht : P.underlying t = some (.array n e)) (he : P.underlying e = some (.struct fs)) (hfs : fs.toList.map (·.type) = [u, u]) (hu : P.underlying u = some (.int .u8)) (hcu : P.cellsOf u = 1) (hce : P.cellsOf e = 2) (hct : P.cellsOf t = n * 2) (hoff : fs.toList.map (·.offset) = [0, 1])
  (h : DataW.trod enc P w base sp held fuel t cs = some (pairData zs, p)) : ∀ i, i < n → ∀ z, zs[i]? = some z → cs[i * 2]? = some (.int .u8 z.1) ∧ cs[i * 2 + 1]? = some (.int .u8 z.2) := by
 cases fuel with
 | zero => simp [DataW.trod] at h
 | succ fuel =>
  simp only [DataW.trod, ht, hce, hct] at h
  split at h
  ·rename_i hl
   obtain ⟨xs, hm, hx⟩ := Option.map_eq_some_iff.1 h
   have hxs : xs.map (·.1) = zs.map fun z => (DataW.agg [.lit (.int .u8 z.1), .lit (.int .u8 z.2)] : DataW H) := by
    have := congrArg Prod.fst hx
    simpa [pairData] using this
   intro i hi z hz
   obtain ⟨b, hb, hf⟩ := Lib.mapM_at hm i i (by simp [hi])
   have h2 : (xs.map (·.1))[i]? = some b.1 := by simp [hb]
   rw [hxs] at h2
   simp only [List.getElem?_map, hz, Option.map_some, Option.some.injEq] at h2
   obtain ⟨ys, m, hmm, hbb, hl2, hyl, hfld⟩ := DataW.trod_struct he hf
   have hy : ys.map (·.1) = [DataW.lit (.int .u8 z.1), .lit (.int .u8 z.2)] := by
    rw [hbb] at h2
    simp only [DataW.agg.injEq] at h2
    exact h2.symm
   obtain ⟨y0, y1, rfl⟩ : ∃ y0 y1, ys = [y0, y1] := by
    have hln := congrArg List.length hy
    rw [List.length_map] at hln
    match ys, hln with
    | [a, b], _ => exact ⟨a, b, rfl⟩
   focus
    simp only [List.map_cons, List.map_nil, List.cons.injEq, and_true] at hy
    obtain ⟨f0, f1, hff⟩ : ∃ f0 f1, fs.toList = [f0, f1] := by
     have hln := congrArg List.length hfs
     simp at hln
     match hq : fs.toList, hln with
     | [f0, f1], _ => exact ⟨f0, f1, rfl⟩
     | [], h => rw [← Array.length_toList, hq] at h; simp at h
     | [a], h => rw [← Array.length_toList, hq] at h; simp at h
     | a :: b :: c :: r, h => rw [← Array.length_toList, hq] at h; simp at h
    rw [hff] at hfs hoff
    simp only [List.map_cons, List.map_nil, List.cons.injEq, and_true] at hfs hoff
    have k0 := (hfld 0 f0 (by rw [← Array.getElem?_toList, hff]; rfl)).trans (rfl : [y0, y1][0]? = some y0)
    have k1 := (hfld 1 f1 (by rw [← Array.getElem?_toList, hff]; rfl)).trans (rfl : [y0, y1][1]? = some y1)
    rw [hfs.1, hcu, hoff.1] at k0
    rw [hfs.2, hcu, hoff.2] at k1
    obtain ⟨z0, e0, rfl, _⟩ := DataW.trod_int hu k0
    obtain ⟨z1, e1, rfl, _⟩ := DataW.trod_int hu k1
    simp only [DataW.lit.injEq, Lit.int.injEq, true_and] at hy
    obtain ⟨rfl, rfl⟩ := hy
    constructor
    ·have := congrArg (·[0]?) e0
     simpa [List.getElem?_take, List.getElem?_drop] using this
    ·have := congrArg (·[0]?) e1
     simpa [List.getElem?_take, List.getElem?_drop] using this
  ·cases h
theorem acc_of_head {W : World} {rest : List (String × DataW Unit)} (h : laidMet Tryz.prog (("unicode/utf8.acceptRanges", pairData accZ) :: rest) W) : ∀ i, i < 16 → W.cell? ⟨1, 2 * i, none⟩ = some (.int .u8 (Lib.accLo i)) ∧ W.cell? ⟨1, 2 * i + 1, none⟩ = some (.int .u8 (Lib.accHi i)) := by
 obtain ⟨ps, ⟨g', t', cs, fuel, p, q, hg', ht', hvar, hd, _, _⟩, _⟩ := h
 obtain rfl := Option.some.inj (gAcc.symm.trans hg')
 obtain rfl := Option.some.inj (gAccType.symm.trans ht')
 intro i hi
 have hz : accZ[i]? = some (((Lib.accLo i : Nat) : Int), ((Lib.accHi i : Nat) : Int)) := by
  unfold accZ
  rw [List.getElem?_map, List.getElem?_range hi]; rfl
 have hc := cells_of_pairs (n := 16) Tryz.underlying204 Tryz.underlying203 rfl Tryz.underlying5 (by kernel_rfl) (by kernel_rfl) (by kernel_rfl) rfl hd i hi _ hz
 have h0 := World.var?_cell gAcc hvar (i * 2)
 have h1 := World.var?_cell gAcc hvar (i * 2 + 1)
 rw [show 2 * i = i * 2 by omega]
 refine ⟨h0.trans ?_, h1.trans ?_⟩
 ·simpa using hc.1
 ·simpa using hc.2
theorem laidH_plain (w : World) : laidMetH Tryz.prog laidAll w = laidMet Tryz.prog laidAll w := MakeChecks.laidMetH_plain _ _ _ (by kernel_rfl)
theorem laidR_of_met {W : World} (h : laidMetH Tryz.prog laidAll W) : LaidR W := by
 rw [laidH_plain] at h
 have h2 := h.tail.tail
 have h3 := h2.tail
 have h4 := h3.tail
 have h5 := h4.tail
 have h6 := h5.tail
 obtain ⟨a1, s1, hv1, -, -, -⟩ := laid_sentinel h4 gER gERType Tryz.underlying158 rowE Tryz.underlying256 Tryz.underlying258 rfl rfl Tryz.underlying9 cellsE cellsStr
 obtain ⟨a2, s2, hv2, -, -, -⟩ := laid_sentinel h5 gES gESType Tryz.underlying158 rowE Tryz.underlying256 Tryz.underlying258 rfl rfl Tryz.underlying9 cellsE cellsStr
 refine ⟨⟨_, by have h0 := World.var?_cell gES hv2 0; simpa using h0, Or.inr ⟨_, _, rfl⟩⟩, ⟨_, by have h0 := World.var?_cell gER hv1 0; simpa using h0, Or.inr ⟨_, _, rfl⟩⟩, ?_, ?_, ?_⟩
 ·rw [show Rows.laid_internal_strconv_uint64pow10 (H := Unit) = Lib.tabData .u64 Lib.pow10Tab from pow_eq] at h2
  exact Lib.tabIs_of_head gPow gPowType Tryz.underlying248 Tryz.underlying197 (by kernel_rfl) (by kernel_rfl) h2
 ·rw [first_eq] at h6
  have ht := Lib.tabIs_of_head gFst gFstType Tryz.underlying201 Tryz.underlying5 (by kernel_rfl) (by kernel_rfl) h6
  intro c hc
  have := ht.cell gFst c (by unfold firstZ; simpa using hc)
  rw [this]
  unfold firstZ
  rw [List.getD_eq_getElem?_getD, List.getElem?_map, List.getElem?_range hc]; rfl
 ·rw [acc_eq] at h3
  exact acc_of_head h3
theorem laidFits (os : Os) (args : Array Value) : laidMetH Tryz.prog laidAll ((World.laidAll Tryz.prog os laidAll).forCall (fun _ _ => 0) ⟨#[], args, []⟩).memory := by
 rw [laidH_plain]; exact laidMet_laidAll _ (by kernel_rfl) (by kernel_rfl)
end Go.Proofs.YticndoihkfbpoaaGreatDoor
