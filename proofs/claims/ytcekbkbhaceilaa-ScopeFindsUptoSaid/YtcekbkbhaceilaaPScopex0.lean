-- written by wip/py/pr.py of this repo, by way of the kit's printer
import Derived.Test.YtcekbkbhaceilaaProg
import Derived.Below
import Derived.Deep.Draws
import Derived.Deep.AppendLies
import Derived.Maps.AppendAt
import Derived.OwnWalk
import Derived.Laws.BytesArg
import Derived.Laws.MakeOwn
import Derived.Laws.OwnMore
import Derived.Deep.OwnRows
import Derived.Tactics
import Derived.Lib.ConvBytes
import Derived.Laws.Slices
import Derived.WalkKit
import Derived.KernelRfl
import Derived.RowKit3
import Derived.Deep.LoopGhost
import Derived.Deep.QuietTactic
import Derived.BigQuiet
import Derived.WideLaws
import Derived.Deep.DeepCutAuto
import Derived.Deep.CutBlock
import Derived.Deep.RegionHeld3
import Derived.Laws.Rows
import Derived.Lib.AppendStr
import Derived.ArgAppend
import Derived.Laws.IdiomCopy
import Derived.OrdersHeld
import Derived.Laws.BitsLemmas
import Derived.RowKit
import Derived.Test.YtcekbkbhaceilaaWWords
import Derived.Test.YtcekbkbhaceilaaWLast
import Derived.Test.YtcekbkbhaceilaaWTab
import Derived.Test.YtcekbkbhaceilaaWFour
import Derived.Test.YtcekbkbhaceilaaWQPut
import Derived.Test.YtcekbkbhaceilaaWApart
import Derived.Test.YtcekbkbhaceilaaWArr
import Derived.Test.YtcekbkbhaceilaaWZeros
import Derived.Test.YtcekbkbhaceilaaWFoot
import Derived.Test.YtcekbkbhaceilaaWKept
import Derived.Test.YtcekbkbhaceilaaWShare
import Derived.Test.YtcekbkbhaceilaaWN
import Derived.Test.YtcekbkbhaceilaaWFootNe
import Derived.Test.YtcekbkbhaceilaaWAt
import Derived.Test.YtcekbkbhaceilaaWEqStruct
import Derived.Test.YtcekbkbhaceilaaWRepsOne
import Derived.Test.YtcekbkbhaceilaaWInv
import Derived.Test.YtcekbkbhaceilaaWInvWords
import Derived.Test.YtcekbkbhaceilaaWGuard
import Derived.Test.YtcekbkbhaceilaaWNEv
import Derived.Test.YtcekbkbhaceilaaWMore
namespace Go.Proofs.Ytcekbkbhaceilaa.PScope
open Go.RowKit Go.Proofs.YtcekbkbhaceilaaW.PrintWords Go.Proofs.YtcekbkbhaceilaaW.PrintLast Go.Proofs.YtcekbkbhaceilaaW.PrintMore
attribute [local go_sem] max2_int min2_int max_two min_two max_three min_three max_four min_four   -- for this text's walks alone
set_option linter.unusedVariables false
set_option linter.unusedSimpArgs false



def errW : Option Int → Value
  | none => .nilIface
  | some c => .iface 0 (.int .i64 c)
theorem errW_none : errW none = .nilIface := rfl
theorem errW_some (c : Int) : errW (some c) = .iface 0 (.int .i64 c) := rfl

theorem info9 : (Try.prog.info? 9).map (fun i => (i.zero, i.size, i.bytes)) = some (some (.string ⟨#[]⟩), 1, 16) := by kernel_rfl
theorem info36 : (Try.prog.info? 36).map (fun i => (i.zero, i.size, i.bytes)) = some (some (.agg #[(.string ⟨#[]⟩), (.slice none 0 0), (.slice none 0 0), (.slice none 0 0), (.slice none 0 0)]), 5, 112) := by kernel_rfl
theorem info46 : (Try.prog.info? 46).map (fun i => (i.zero, i.size, i.bytes)) = some (some (.agg #[(.slice none 0 0), (.int .i64 0), (.string ⟨#[]⟩), (.int .i64 0), (.slice none 0 0), (.slice none 0 0), (.slice none 0 0)]), 7, 128) := by kernel_rfl
-- the values' own types
def rd_L1 (xs : List (List ByteArray)) (i : Int) : (List ByteArray) := xs.getD i.toNat ([] : List ByteArray)
theorem at_L1 {w : World} {A : Option Addr} {n : Nat} {xs : List (List ByteArray)} (h : Kd.C (Kd.slice 9 Kd.string) w A n xs) (i : Int) (h0 : 0 ≤ i) (h1 : i < n) : ∃ ad A0 c0, A = some ad ∧ w.cell? (ad.add i.toNat) = some (.slice A0 (rd_L1 xs i).length c0) ∧ (rd_L1 xs i).length ≤ c0 ∧ Kd.string.C w A0 (rd_L1 xs i).length (rd_L1 xs i) := by
  obtain ⟨ad, c, e, _, hK, hc0⟩ := Kd.C_get h ([] : List ByteArray) i h0 h1
  have hc : ∀ j u, c[j]? = some u → w.cell? (ad.add (i.toNat * 1 + j)) = some u := hc0
  obtain ⟨A0, c0, rfl, l0, g0⟩ := hK
  exact ⟨ad, A0, c0, e, by have hq := hc 0 _ rfl; rwa [Nat.mul_one, Nat.add_zero] at hq, l0, g0⟩

/-! #### struct type 72 -/
structure S72 where
  f0 : ByteArray
  f1 : (List ByteArray)
def z72 : S72 := ⟨(⟨#[]⟩ : ByteArray), ([] : List ByteArray)⟩
def k72 : Kd S72 := Kd.iso (Kd.pair Kd.string (Kd.slice 9 Kd.string)) (fun x : S72 => (x.f0, x.f1))
theorem k72_open {w : World} {x : S72} {cs : List Value} (h : k72.K w x cs) : ∃ A1 c1, cs = [.string x.f0, .slice A1 x.f1.length c1] ∧ x.f1.length ≤ c1 ∧ Kd.string.C w A1 x.f1.length x.f1 := by
  obtain ⟨_, _, rfl, rfl, ⟨A1, c1, rfl, l1, g1⟩⟩ := h
  exact ⟨A1, c1, rfl, l1, g1⟩
theorem k72_openM {w : World} {base : Nat} {ok : Nat → Prop} {x : S72} {cs : List Value} (h : k72.M w base ok x cs) : ∃ v1, cs = [.string x.f0, v1] ∧ Kd.string.R 9 w base ok v1 x.f1 := by
  obtain ⟨_, _, rfl, rfl, ⟨v1, rfl, g1⟩⟩ := h
  exact ⟨v1, rfl, g1⟩
theorem k72_mk (w : World) (x : S72) {A1 : Option Addr} {c1 : Nat} (l1 : x.f1.length ≤ c1) (g1 : Kd.string.C w A1 x.f1.length x.f1) : k72.K w x [.string x.f0, .slice A1 x.f1.length c1] := ⟨[.string x.f0], [.slice A1 x.f1.length c1], rfl, rfl, ⟨A1, c1, rfl, l1, g1⟩⟩
theorem k72_mkM (w : World) (base : Nat) (ok : Nat → Prop) (x : S72) {v1 : Value} (g1 : Kd.string.R 9 w base ok v1 x.f1) : k72.M w base ok x [.string x.f0, v1] := ⟨[.string x.f0], [v1], rfl, rfl, ⟨v1, rfl, g1⟩⟩
theorem k72_openF {W : World} {ok : Nat → Prop} {x : S72} {cs : List Value} (h : Kd.FK k72 W ok x cs) : ∃ A1 c1, cs = [.string x.f0, .slice A1 x.f1.length c1] ∧ x.f1.length ≤ c1 ∧ Kd.F Kd.string W ok A1 x.f1.length x.f1 := by
  obtain ⟨A1, c1, rfl, l1, _⟩ := k72_open (Kd.FK_now h)
  exact ⟨A1, c1, rfl, l1, (fun W' hW => by obtain ⟨A1_, c1_, he, l1_, g1_⟩ := k72_open (h W' hW); injection (Option.some.inj (show some (Value.slice A1 x.f1.length c1) = some (Value.slice A1_ x.f1.length c1_) from congrArg (fun l => l[1]?) he)) with ha_ _ _; rw [ha_]; exact g1_)⟩
theorem k72_mkF (W : World) (ok : Nat → Prop) (x : S72) {A1 : Option Addr} {c1 : Nat} (l1 : x.f1.length ≤ c1) (g1 : Kd.F Kd.string W ok A1 x.f1.length x.f1) : Kd.FK k72 W ok x [.string x.f0, .slice A1 x.f1.length c1] := fun W2 hW => k72_mk W2 x l1 (g1 W2 hW)
def rd_T72 (xs : List S72) (i : Int) : S72 := xs.getD i.toNat z72
theorem at_T72 {w : World} {A : Option Addr} {n : Nat} {xs : List S72} (h : Kd.C k72 w A n xs) (i : Int) (h0 : 0 ≤ i) (h1 : i < n) : ∃ ad A1 c1, A = some ad ∧ w.cell? (ad.add (i.toNat * 2)) = some (.string (rd_T72 xs i).f0) ∧ w.cell? ⟨(ad.add (i.toNat * 2)).block, (ad.add (i.toNat * 2)).off + 1, none⟩ = some (.slice A1 (rd_T72 xs i).f1.length c1) ∧ (rd_T72 xs i).f1.length ≤ c1 ∧ Kd.string.C w A1 (rd_T72 xs i).f1.length (rd_T72 xs i).f1 := by
  obtain ⟨ad, c, e, _, hK, hc0⟩ := Kd.C_get h z72 i h0 h1
  have hc : ∀ j u, c[j]? = some u → w.cell? (ad.add (i.toNat * 2 + j)) = some u := hc0
  obtain ⟨A1, c1, rfl, l1, g1⟩ := k72_open hK
  exact ⟨ad, A1, c1, e, hc 0 _ rfl, by rw [← add_field _ _ 1 (by omega)]; exact hc 1 _ rfl, l1, g1⟩

/-! #### struct type 41, nested in itself -/
structure S41 where
  f0 : Int
  f1 : ByteArray
  f2 : Int
  f3 : (List ByteArray)
  f4 : (List S41)
def z41 : S41 := ⟨(0 : Int), (⟨#[]⟩ : ByteArray), (0 : Int), ([] : List ByteArray), ([] : List S41)⟩
def F41 (d : Kd S41) : Kd S41 := Kd.iso (Kd.pair (Kd.int .i64) (Kd.pair Kd.string (Kd.pair (Kd.int .i64) (Kd.pair (Kd.slice 9 Kd.string) (Kd.slice 41 d))))) (fun x : S41 => (x.f0, x.f1, x.f2, x.f3, x.f4))
theorem mono41 : Kd.Mono F41 := Kd.mono_iso _ (Kd.mono_pair (Kd.mono_const _) (Kd.mono_pair (Kd.mono_const _) (Kd.mono_pair (Kd.mono_const _) (Kd.mono_pair (Kd.mono_const _) (Kd.mono_slice 41 Kd.mono_id)))))
theorem sub41 : Kd.Sub F41 [9, 41] := Kd.sub_iso _ (Kd.sub_pair (Kd.sub_const _ (by decide)) (Kd.sub_pair (Kd.sub_const _ (by decide)) (Kd.sub_pair (Kd.sub_const _ (by decide)) (Kd.sub_pair (Kd.sub_const _ (by decide)) (Kd.sub_slice 41 (by decide) Kd.sub_id)))))
theorem sz41 : ∀ n, (Kd.upto F41 5 [9, 41] n).sz = 5 := Kd.upto_sz (fun _ => rfl)
def k41 : Kd S41 := Kd.fix F41 5 [9, 41] sz41 (Kd.upto_E sub41)
theorem k41_open {w : World} {x : S41} {cs : List Value} (h : k41.K w x cs) : ∃ A3 c3 A4 c4, cs = [.int .i64 x.f0, .string x.f1, .int .i64 x.f2, .slice A3 x.f3.length c3, .slice A4 x.f4.length c4] ∧ x.f3.length ≤ c3 ∧ Kd.string.C w A3 x.f3.length x.f3 ∧ x.f4.length ≤ c4 ∧ k41.C w A4 x.f4.length x.f4 := by
  obtain ⟨n, h⟩ := h
  cases n with
  | zero => exact h.elim
  | succ n =>
    obtain ⟨_, _, rfl, rfl, ⟨_, _, rfl, rfl, ⟨_, _, rfl, rfl, ⟨_, _, rfl, ⟨A3, c3, rfl, l3, g3⟩, ⟨A4, c4, rfl, l4, g4⟩⟩⟩⟩⟩ := h
    exact ⟨A3, c3, A4, c4, rfl, l3, g3, l4, Kd.fix_C g4⟩
theorem k41_openM {w : World} {base : Nat} {ok : Nat → Prop} {x : S41} {cs : List Value} (h : k41.M w base ok x cs) : ∃ v3 v4, cs = [.int .i64 x.f0, .string x.f1, .int .i64 x.f2, v3, v4] ∧ Kd.string.R 9 w base ok v3 x.f3 ∧ k41.R 41 w base ok v4 x.f4 := by
  obtain ⟨n, h⟩ := h
  cases n with
  | zero => exact h.elim
  | succ n =>
    obtain ⟨_, _, rfl, rfl, ⟨_, _, rfl, rfl, ⟨_, _, rfl, rfl, ⟨_, _, rfl, ⟨v3, rfl, g3⟩, ⟨v4, rfl, g4⟩⟩⟩⟩⟩ := h
    exact ⟨v3, v4, rfl, g3, Kd.fix_R g4⟩
theorem k41_mk (w : World) (x : S41) {A3 : Option Addr} {c3 : Nat} (l3 : x.f3.length ≤ c3) (g3 : Kd.string.C w A3 x.f3.length x.f3) {A4 : Option Addr} {c4 : Nat} (l4 : x.f4.length ≤ c4) (g4 : k41.C w A4 x.f4.length x.f4) : k41.K w x [.int .i64 x.f0, .string x.f1, .int .i64 x.f2, .slice A3 x.f3.length c3, .slice A4 x.f4.length c4] := by
  obtain ⟨n4, q4⟩ := Kd.fix_C_back mono41 g4
  have r4 := Kd.upto_C_le mono41 sz41 (show n4 ≤ n4 by omega) q4
  exact ⟨n4 + 1, ⟨[.int .i64 x.f0], [.string x.f1, .int .i64 x.f2, .slice A3 x.f3.length c3, .slice A4 x.f4.length c4], rfl, rfl, ⟨[.string x.f1], [.int .i64 x.f2, .slice A3 x.f3.length c3, .slice A4 x.f4.length c4], rfl, rfl, ⟨[.int .i64 x.f2], [.slice A3 x.f3.length c3, .slice A4 x.f4.length c4], rfl, rfl, ⟨[.slice A3 x.f3.length c3], [.slice A4 x.f4.length c4], rfl, ⟨A3, c3, rfl, l3, g3⟩, ⟨A4, c4, rfl, l4, r4⟩⟩⟩⟩⟩⟩
theorem k41_mkM (w : World) (base : Nat) (ok : Nat → Prop) (x : S41) {v3 : Value} (g3 : Kd.string.R 9 w base ok v3 x.f3) {v4 : Value} (g4 : k41.R 41 w base ok v4 x.f4) : k41.M w base ok x [.int .i64 x.f0, .string x.f1, .int .i64 x.f2, v3, v4] := by
  obtain ⟨n4, q4⟩ := Kd.fix_R_back mono41 g4
  have r4 := Kd.upto_R_le mono41 sz41 (show n4 ≤ n4 by omega) q4
  exact ⟨n4 + 1, ⟨[.int .i64 x.f0], [.string x.f1, .int .i64 x.f2, v3, v4], rfl, rfl, ⟨[.string x.f1], [.int .i64 x.f2, v3, v4], rfl, rfl, ⟨[.int .i64 x.f2], [v3, v4], rfl, rfl, ⟨[v3], [v4], rfl, ⟨v3, rfl, g3⟩, ⟨v4, rfl, r4⟩⟩⟩⟩⟩⟩
theorem k41_openF {W : World} {ok : Nat → Prop} {x : S41} {cs : List Value} (h : Kd.FK k41 W ok x cs) : ∃ A3 c3 A4 c4, cs = [.int .i64 x.f0, .string x.f1, .int .i64 x.f2, .slice A3 x.f3.length c3, .slice A4 x.f4.length c4] ∧ x.f3.length ≤ c3 ∧ Kd.F Kd.string W ok A3 x.f3.length x.f3 ∧ x.f4.length ≤ c4 ∧ Kd.F k41 W ok A4 x.f4.length x.f4 := by
  obtain ⟨A3, c3, A4, c4, rfl, l3, _, l4, _⟩ := k41_open (Kd.FK_now h)
  exact ⟨A3, c3, A4, c4, rfl, l3, (fun W' hW => by obtain ⟨A3_, c3_, A4_, c4_, he, l3_, g3_, l4_, g4_⟩ := k41_open (h W' hW); injection (Option.some.inj (show some (Value.slice A3 x.f3.length c3) = some (Value.slice A3_ x.f3.length c3_) from congrArg (fun l => l[3]?) he)) with ha_ _ _; rw [ha_]; exact g3_), l4, (fun W' hW => by obtain ⟨A3_, c3_, A4_, c4_, he, l3_, g3_, l4_, g4_⟩ := k41_open (h W' hW); injection (Option.some.inj (show some (Value.slice A4 x.f4.length c4) = some (Value.slice A4_ x.f4.length c4_) from congrArg (fun l => l[4]?) he)) with ha_ _ _; rw [ha_]; exact g4_)⟩
theorem k41_mkF (W : World) (ok : Nat → Prop) (x : S41) {A3 : Option Addr} {c3 : Nat} (l3 : x.f3.length ≤ c3) (g3 : Kd.F Kd.string W ok A3 x.f3.length x.f3) {A4 : Option Addr} {c4 : Nat} (l4 : x.f4.length ≤ c4) (g4 : Kd.F k41 W ok A4 x.f4.length x.f4) : Kd.FK k41 W ok x [.int .i64 x.f0, .string x.f1, .int .i64 x.f2, .slice A3 x.f3.length c3, .slice A4 x.f4.length c4] := fun W2 hW => k41_mk W2 x l3 (g3 W2 hW) l4 (g4 W2 hW)
def rd_T41 (xs : List S41) (i : Int) : S41 := xs.getD i.toNat z41
theorem at_T41 {w : World} {A : Option Addr} {n : Nat} {xs : List S41} (h : Kd.C k41 w A n xs) (i : Int) (h0 : 0 ≤ i) (h1 : i < n) : ∃ ad A3 c3 A4 c4, A = some ad ∧ w.cell? (ad.add (i.toNat * 5)) = some (.int .i64 (rd_T41 xs i).f0) ∧ w.cell? ⟨(ad.add (i.toNat * 5)).block, (ad.add (i.toNat * 5)).off + 1, none⟩ = some (.string (rd_T41 xs i).f1) ∧ w.cell? ⟨(ad.add (i.toNat * 5)).block, (ad.add (i.toNat * 5)).off + 2, none⟩ = some (.int .i64 (rd_T41 xs i).f2) ∧ w.cell? ⟨(ad.add (i.toNat * 5)).block, (ad.add (i.toNat * 5)).off + 3, none⟩ = some (.slice A3 (rd_T41 xs i).f3.length c3) ∧ w.cell? ⟨(ad.add (i.toNat * 5)).block, (ad.add (i.toNat * 5)).off + 4, none⟩ = some (.slice A4 (rd_T41 xs i).f4.length c4) ∧ (rd_T41 xs i).f3.length ≤ c3 ∧ Kd.string.C w A3 (rd_T41 xs i).f3.length (rd_T41 xs i).f3 ∧ (rd_T41 xs i).f4.length ≤ c4 ∧ k41.C w A4 (rd_T41 xs i).f4.length (rd_T41 xs i).f4 := by
  obtain ⟨ad, c, e, _, hK, hc0⟩ := Kd.C_get h z41 i h0 h1
  have hc : ∀ j u, c[j]? = some u → w.cell? (ad.add (i.toNat * 5 + j)) = some u := hc0
  obtain ⟨A3, c3, A4, c4, rfl, l3, g3, l4, g4⟩ := k41_open hK
  exact ⟨ad, A3, c3, A4, c4, e, hc 0 _ rfl, by rw [← add_field _ _ 1 (by omega)]; exact hc 1 _ rfl, by rw [← add_field _ _ 2 (by omega)]; exact hc 2 _ rfl, by rw [← add_field _ _ 3 (by omega)]; exact hc 3 _ rfl, by rw [← add_field _ _ 4 (by omega)]; exact hc 4 _ rfl, l3, g3, l4, g4⟩

/-! #### struct type 43 -/
structure S43 where
  f0 : (List ByteArray)
  f1 : S41
def z43 : S43 := ⟨([] : List ByteArray), z41⟩
def k43 : Kd S43 := Kd.iso (Kd.pair (Kd.slice 9 Kd.string) k41) (fun x : S43 => (x.f0, x.f1))
theorem k43_open {w : World} {x : S43} {cs : List Value} (h : k43.K w x cs) : ∃ A0 c0 A4 c4 A5 c5, cs = [.slice A0 x.f0.length c0, .int .i64 x.f1.f0, .string x.f1.f1, .int .i64 x.f1.f2, .slice A4 x.f1.f3.length c4, .slice A5 x.f1.f4.length c5] ∧ x.f0.length ≤ c0 ∧ Kd.string.C w A0 x.f0.length x.f0 ∧ x.f1.f3.length ≤ c4 ∧ Kd.string.C w A4 x.f1.f3.length x.f1.f3 ∧ x.f1.f4.length ≤ c5 ∧ k41.C w A5 x.f1.f4.length x.f1.f4 := by
  obtain ⟨_, _, rfl, ⟨A0, c0, rfl, l0, g0⟩, s1⟩ := h
  obtain ⟨A4, c4, A5, c5, rfl, l4, g4, l5, g5⟩ := k41_open s1
  exact ⟨A0, c0, A4, c4, A5, c5, rfl, l0, g0, l4, g4, l5, g5⟩
theorem k43_openM {w : World} {base : Nat} {ok : Nat → Prop} {x : S43} {cs : List Value} (h : k43.M w base ok x cs) : ∃ v0 v4 v5, cs = [v0, .int .i64 x.f1.f0, .string x.f1.f1, .int .i64 x.f1.f2, v4, v5] ∧ Kd.string.R 9 w base ok v0 x.f0 ∧ Kd.string.R 9 w base ok v4 x.f1.f3 ∧ k41.R 41 w base ok v5 x.f1.f4 := by
  obtain ⟨_, _, rfl, ⟨v0, rfl, g0⟩, s1⟩ := h
  obtain ⟨v4, v5, rfl, g4, g5⟩ := k41_openM s1
  exact ⟨v0, v4, v5, rfl, g0, g4, g5⟩
theorem k43_mk (w : World) (x : S43) {A0 : Option Addr} {c0 : Nat} (l0 : x.f0.length ≤ c0) (g0 : Kd.string.C w A0 x.f0.length x.f0) {A4 : Option Addr} {c4 : Nat} (l4 : x.f1.f3.length ≤ c4) (g4 : Kd.string.C w A4 x.f1.f3.length x.f1.f3) {A5 : Option Addr} {c5 : Nat} (l5 : x.f1.f4.length ≤ c5) (g5 : k41.C w A5 x.f1.f4.length x.f1.f4) : k43.K w x [.slice A0 x.f0.length c0, .int .i64 x.f1.f0, .string x.f1.f1, .int .i64 x.f1.f2, .slice A4 x.f1.f3.length c4, .slice A5 x.f1.f4.length c5] := ⟨[.slice A0 x.f0.length c0], [.int .i64 x.f1.f0, .string x.f1.f1, .int .i64 x.f1.f2, .slice A4 x.f1.f3.length c4, .slice A5 x.f1.f4.length c5], rfl, ⟨A0, c0, rfl, l0, g0⟩, (k41_mk w x.f1 l4 g4 l5 g5)⟩
theorem k43_mkM (w : World) (base : Nat) (ok : Nat → Prop) (x : S43) {v0 : Value} (g0 : Kd.string.R 9 w base ok v0 x.f0) {v4 : Value} (g4 : Kd.string.R 9 w base ok v4 x.f1.f3) {v5 : Value} (g5 : k41.R 41 w base ok v5 x.f1.f4) : k43.M w base ok x [v0, .int .i64 x.f1.f0, .string x.f1.f1, .int .i64 x.f1.f2, v4, v5] := ⟨[v0], [.int .i64 x.f1.f0, .string x.f1.f1, .int .i64 x.f1.f2, v4, v5], rfl, ⟨v0, rfl, g0⟩, (k41_mkM w base ok x.f1 g4 g5)⟩
theorem k43_openF {W : World} {ok : Nat → Prop} {x : S43} {cs : List Value} (h : Kd.FK k43 W ok x cs) : ∃ A0 c0 A4 c4 A5 c5, cs = [.slice A0 x.f0.length c0, .int .i64 x.f1.f0, .string x.f1.f1, .int .i64 x.f1.f2, .slice A4 x.f1.f3.length c4, .slice A5 x.f1.f4.length c5] ∧ x.f0.length ≤ c0 ∧ Kd.F Kd.string W ok A0 x.f0.length x.f0 ∧ x.f1.f3.length ≤ c4 ∧ Kd.F Kd.string W ok A4 x.f1.f3.length x.f1.f3 ∧ x.f1.f4.length ≤ c5 ∧ Kd.F k41 W ok A5 x.f1.f4.length x.f1.f4 := by
  obtain ⟨A0, c0, A4, c4, A5, c5, rfl, l0, _, l4, _, l5, _⟩ := k43_open (Kd.FK_now h)
  exact ⟨A0, c0, A4, c4, A5, c5, rfl, l0, (fun W' hW => by obtain ⟨A0_, c0_, A4_, c4_, A5_, c5_, he, l0_, g0_, l4_, g4_, l5_, g5_⟩ := k43_open (h W' hW); injection (Option.some.inj (show some (Value.slice A0 x.f0.length c0) = some (Value.slice A0_ x.f0.length c0_) from congrArg (fun l => l[0]?) he)) with ha_ _ _; rw [ha_]; exact g0_), l4, (fun W' hW => by obtain ⟨A0_, c0_, A4_, c4_, A5_, c5_, he, l0_, g0_, l4_, g4_, l5_, g5_⟩ := k43_open (h W' hW); injection (Option.some.inj (show some (Value.slice A4 x.f1.f3.length c4) = some (Value.slice A4_ x.f1.f3.length c4_) from congrArg (fun l => l[4]?) he)) with ha_ _ _; rw [ha_]; exact g4_), l5, (fun W' hW => by obtain ⟨A0_, c0_, A4_, c4_, A5_, c5_, he, l0_, g0_, l4_, g4_, l5_, g5_⟩ := k43_open (h W' hW); injection (Option.some.inj (show some (Value.slice A5 x.f1.f4.length c5) = some (Value.slice A5_ x.f1.f4.length c5_) from congrArg (fun l => l[5]?) he)) with ha_ _ _; rw [ha_]; exact g5_)⟩
theorem k43_mkF (W : World) (ok : Nat → Prop) (x : S43) {A0 : Option Addr} {c0 : Nat} (l0 : x.f0.length ≤ c0) (g0 : Kd.F Kd.string W ok A0 x.f0.length x.f0) {A4 : Option Addr} {c4 : Nat} (l4 : x.f1.f3.length ≤ c4) (g4 : Kd.F Kd.string W ok A4 x.f1.f3.length x.f1.f3) {A5 : Option Addr} {c5 : Nat} (l5 : x.f1.f4.length ≤ c5) (g5 : Kd.F k41 W ok A5 x.f1.f4.length x.f1.f4) : Kd.FK k43 W ok x [.slice A0 x.f0.length c0, .int .i64 x.f1.f0, .string x.f1.f1, .int .i64 x.f1.f2, .slice A4 x.f1.f3.length c4, .slice A5 x.f1.f4.length c5] := fun W2 hW => k43_mk W2 x l0 (g0 W2 hW) l4 (g4 W2 hW) l5 (g5 W2 hW)
def rd_T43 (xs : List S43) (i : Int) : S43 := xs.getD i.toNat z43
theorem at_T43 {w : World} {A : Option Addr} {n : Nat} {xs : List S43} (h : Kd.C k43 w A n xs) (i : Int) (h0 : 0 ≤ i) (h1 : i < n) : ∃ ad A0 c0 A4 c4 A5 c5, A = some ad ∧ w.cell? (ad.add (i.toNat * 6)) = some (.slice A0 (rd_T43 xs i).f0.length c0) ∧ w.cell? ⟨(ad.add (i.toNat * 6)).block, (ad.add (i.toNat * 6)).off + 1, none⟩ = some (.int .i64 (rd_T43 xs i).f1.f0) ∧ w.cell? ⟨(ad.add (i.toNat * 6)).block, (ad.add (i.toNat * 6)).off + 2, none⟩ = some (.string (rd_T43 xs i).f1.f1) ∧ w.cell? ⟨(ad.add (i.toNat * 6)).block, (ad.add (i.toNat * 6)).off + 3, none⟩ = some (.int .i64 (rd_T43 xs i).f1.f2) ∧ w.cell? ⟨(ad.add (i.toNat * 6)).block, (ad.add (i.toNat * 6)).off + 4, none⟩ = some (.slice A4 (rd_T43 xs i).f1.f3.length c4) ∧ w.cell? ⟨(ad.add (i.toNat * 6)).block, (ad.add (i.toNat * 6)).off + 5, none⟩ = some (.slice A5 (rd_T43 xs i).f1.f4.length c5) ∧ (rd_T43 xs i).f0.length ≤ c0 ∧ Kd.string.C w A0 (rd_T43 xs i).f0.length (rd_T43 xs i).f0 ∧ (rd_T43 xs i).f1.f3.length ≤ c4 ∧ Kd.string.C w A4 (rd_T43 xs i).f1.f3.length (rd_T43 xs i).f1.f3 ∧ (rd_T43 xs i).f1.f4.length ≤ c5 ∧ k41.C w A5 (rd_T43 xs i).f1.f4.length (rd_T43 xs i).f1.f4 := by
  obtain ⟨ad, c, e, _, hK, hc0⟩ := Kd.C_get h z43 i h0 h1
  have hc : ∀ j u, c[j]? = some u → w.cell? (ad.add (i.toNat * 6 + j)) = some u := hc0
  obtain ⟨A0, c0, A4, c4, A5, c5, rfl, l0, g0, l4, g4, l5, g5⟩ := k43_open hK
  exact ⟨ad, A0, c0, A4, c4, A5, c5, e, hc 0 _ rfl, by rw [← add_field _ _ 1 (by omega)]; exact hc 1 _ rfl, by rw [← add_field _ _ 2 (by omega)]; exact hc 2 _ rfl, by rw [← add_field _ _ 3 (by omega)]; exact hc 3 _ rfl, by rw [← add_field _ _ 4 (by omega)]; exact hc 4 _ rfl, by rw [← add_field _ _ 5 (by omega)]; exact hc 5 _ rfl, l0, g0, l4, g4, l5, g5⟩

def rd_L6 (xs : List (List S43)) (i : Int) : (List S43) := xs.getD i.toNat ([] : List S43)
theorem at_L6 {w : World} {A : Option Addr} {n : Nat} {xs : List (List S43)} (h : Kd.C (Kd.slice 43 k43) w A n xs) (i : Int) (h0 : 0 ≤ i) (h1 : i < n) : ∃ ad A0 c0, A = some ad ∧ w.cell? (ad.add i.toNat) = some (.slice A0 (rd_L6 xs i).length c0) ∧ (rd_L6 xs i).length ≤ c0 ∧ k43.C w A0 (rd_L6 xs i).length (rd_L6 xs i) := by
  obtain ⟨ad, c, e, _, hK, hc0⟩ := Kd.C_get h ([] : List S43) i h0 h1
  have hc : ∀ j u, c[j]? = some u → w.cell? (ad.add (i.toNat * 1 + j)) = some u := hc0
  obtain ⟨A0, c0, rfl, l0, g0⟩ := hK
  exact ⟨ad, A0, c0, e, by have hq := hc 0 _ rfl; rwa [Nat.mul_one, Nat.add_zero] at hq, l0, g0⟩

/-! #### struct type 95 -/
structure S95 where
  f0 : S41
  f1 : ByteArray
def z95 : S95 := ⟨z41, (⟨#[]⟩ : ByteArray)⟩
def k95 : Kd S95 := Kd.iso (Kd.pair k41 Kd.string) (fun x : S95 => (x.f0, x.f1))
theorem k95_open {w : World} {x : S95} {cs : List Value} (h : k95.K w x cs) : ∃ A3 c3 A4 c4, cs = [.int .i64 x.f0.f0, .string x.f0.f1, .int .i64 x.f0.f2, .slice A3 x.f0.f3.length c3, .slice A4 x.f0.f4.length c4, .string x.f1] ∧ x.f0.f3.length ≤ c3 ∧ Kd.string.C w A3 x.f0.f3.length x.f0.f3 ∧ x.f0.f4.length ≤ c4 ∧ k41.C w A4 x.f0.f4.length x.f0.f4 := by
  obtain ⟨_, _, rfl, s0, rfl⟩ := h
  obtain ⟨A3, c3, A4, c4, rfl, l3, g3, l4, g4⟩ := k41_open s0
  exact ⟨A3, c3, A4, c4, rfl, l3, g3, l4, g4⟩
theorem k95_openM {w : World} {base : Nat} {ok : Nat → Prop} {x : S95} {cs : List Value} (h : k95.M w base ok x cs) : ∃ v3 v4, cs = [.int .i64 x.f0.f0, .string x.f0.f1, .int .i64 x.f0.f2, v3, v4, .string x.f1] ∧ Kd.string.R 9 w base ok v3 x.f0.f3 ∧ k41.R 41 w base ok v4 x.f0.f4 := by
  obtain ⟨_, _, rfl, s0, rfl⟩ := h
  obtain ⟨v3, v4, rfl, g3, g4⟩ := k41_openM s0
  exact ⟨v3, v4, rfl, g3, g4⟩
theorem k95_mk (w : World) (x : S95) {A3 : Option Addr} {c3 : Nat} (l3 : x.f0.f3.length ≤ c3) (g3 : Kd.string.C w A3 x.f0.f3.length x.f0.f3) {A4 : Option Addr} {c4 : Nat} (l4 : x.f0.f4.length ≤ c4) (g4 : k41.C w A4 x.f0.f4.length x.f0.f4) : k95.K w x [.int .i64 x.f0.f0, .string x.f0.f1, .int .i64 x.f0.f2, .slice A3 x.f0.f3.length c3, .slice A4 x.f0.f4.length c4, .string x.f1] := ⟨[.int .i64 x.f0.f0, .string x.f0.f1, .int .i64 x.f0.f2, .slice A3 x.f0.f3.length c3, .slice A4 x.f0.f4.length c4], [.string x.f1], rfl, (k41_mk w x.f0 l3 g3 l4 g4), rfl⟩
theorem k95_mkM (w : World) (base : Nat) (ok : Nat → Prop) (x : S95) {v3 : Value} (g3 : Kd.string.R 9 w base ok v3 x.f0.f3) {v4 : Value} (g4 : k41.R 41 w base ok v4 x.f0.f4) : k95.M w base ok x [.int .i64 x.f0.f0, .string x.f0.f1, .int .i64 x.f0.f2, v3, v4, .string x.f1] := ⟨[.int .i64 x.f0.f0, .string x.f0.f1, .int .i64 x.f0.f2, v3, v4], [.string x.f1], rfl, (k41_mkM w base ok x.f0 g3 g4), rfl⟩
theorem k95_openF {W : World} {ok : Nat → Prop} {x : S95} {cs : List Value} (h : Kd.FK k95 W ok x cs) : ∃ A3 c3 A4 c4, cs = [.int .i64 x.f0.f0, .string x.f0.f1, .int .i64 x.f0.f2, .slice A3 x.f0.f3.length c3, .slice A4 x.f0.f4.length c4, .string x.f1] ∧ x.f0.f3.length ≤ c3 ∧ Kd.F Kd.string W ok A3 x.f0.f3.length x.f0.f3 ∧ x.f0.f4.length ≤ c4 ∧ Kd.F k41 W ok A4 x.f0.f4.length x.f0.f4 := by
  obtain ⟨A3, c3, A4, c4, rfl, l3, _, l4, _⟩ := k95_open (Kd.FK_now h)
  exact ⟨A3, c3, A4, c4, rfl, l3, (fun W' hW => by obtain ⟨A3_, c3_, A4_, c4_, he, l3_, g3_, l4_, g4_⟩ := k95_open (h W' hW); injection (Option.some.inj (show some (Value.slice A3 x.f0.f3.length c3) = some (Value.slice A3_ x.f0.f3.length c3_) from congrArg (fun l => l[3]?) he)) with ha_ _ _; rw [ha_]; exact g3_), l4, (fun W' hW => by obtain ⟨A3_, c3_, A4_, c4_, he, l3_, g3_, l4_, g4_⟩ := k95_open (h W' hW); injection (Option.some.inj (show some (Value.slice A4 x.f0.f4.length c4) = some (Value.slice A4_ x.f0.f4.length c4_) from congrArg (fun l => l[4]?) he)) with ha_ _ _; rw [ha_]; exact g4_)⟩
theorem k95_mkF (W : World) (ok : Nat → Prop) (x : S95) {A3 : Option Addr} {c3 : Nat} (l3 : x.f0.f3.length ≤ c3) (g3 : Kd.F Kd.string W ok A3 x.f0.f3.length x.f0.f3) {A4 : Option Addr} {c4 : Nat} (l4 : x.f0.f4.length ≤ c4) (g4 : Kd.F k41 W ok A4 x.f0.f4.length x.f0.f4) : Kd.FK k95 W ok x [.int .i64 x.f0.f0, .string x.f0.f1, .int .i64 x.f0.f2, .slice A3 x.f0.f3.length c3, .slice A4 x.f0.f4.length c4, .string x.f1] := fun W2 hW => k95_mk W2 x l3 (g3 W2 hW) l4 (g4 W2 hW)
def rd_T95 (xs : List S95) (i : Int) : S95 := xs.getD i.toNat z95
theorem at_T95 {w : World} {A : Option Addr} {n : Nat} {xs : List S95} (h : Kd.C k95 w A n xs) (i : Int) (h0 : 0 ≤ i) (h1 : i < n) : ∃ ad A3 c3 A4 c4, A = some ad ∧ w.cell? (ad.add (i.toNat * 6)) = some (.int .i64 (rd_T95 xs i).f0.f0) ∧ w.cell? ⟨(ad.add (i.toNat * 6)).block, (ad.add (i.toNat * 6)).off + 1, none⟩ = some (.string (rd_T95 xs i).f0.f1) ∧ w.cell? ⟨(ad.add (i.toNat * 6)).block, (ad.add (i.toNat * 6)).off + 2, none⟩ = some (.int .i64 (rd_T95 xs i).f0.f2) ∧ w.cell? ⟨(ad.add (i.toNat * 6)).block, (ad.add (i.toNat * 6)).off + 3, none⟩ = some (.slice A3 (rd_T95 xs i).f0.f3.length c3) ∧ w.cell? ⟨(ad.add (i.toNat * 6)).block, (ad.add (i.toNat * 6)).off + 4, none⟩ = some (.slice A4 (rd_T95 xs i).f0.f4.length c4) ∧ w.cell? ⟨(ad.add (i.toNat * 6)).block, (ad.add (i.toNat * 6)).off + 5, none⟩ = some (.string (rd_T95 xs i).f1) ∧ (rd_T95 xs i).f0.f3.length ≤ c3 ∧ Kd.string.C w A3 (rd_T95 xs i).f0.f3.length (rd_T95 xs i).f0.f3 ∧ (rd_T95 xs i).f0.f4.length ≤ c4 ∧ k41.C w A4 (rd_T95 xs i).f0.f4.length (rd_T95 xs i).f0.f4 := by
  obtain ⟨ad, c, e, _, hK, hc0⟩ := Kd.C_get h z95 i h0 h1
  have hc : ∀ j u, c[j]? = some u → w.cell? (ad.add (i.toNat * 6 + j)) = some u := hc0
  obtain ⟨A3, c3, A4, c4, rfl, l3, g3, l4, g4⟩ := k95_open hK
  exact ⟨ad, A3, c3, A4, c4, e, hc 0 _ rfl, by rw [← add_field _ _ 1 (by omega)]; exact hc 1 _ rfl, by rw [← add_field _ _ 2 (by omega)]; exact hc 2 _ rfl, by rw [← add_field _ _ 3 (by omega)]; exact hc 3 _ rfl, by rw [← add_field _ _ 4 (by omega)]; exact hc 4 _ rfl, by rw [← add_field _ _ 5 (by omega)]; exact hc 5 _ rfl, l3, g3, l4, g4⟩

def rd_L8 (xs : List (List S95)) (i : Int) : (List S95) := xs.getD i.toNat ([] : List S95)
theorem at_L8 {w : World} {A : Option Addr} {n : Nat} {xs : List (List S95)} (h : Kd.C (Kd.slice 95 k95) w A n xs) (i : Int) (h0 : 0 ≤ i) (h1 : i < n) : ∃ ad A0 c0, A = some ad ∧ w.cell? (ad.add i.toNat) = some (.slice A0 (rd_L8 xs i).length c0) ∧ (rd_L8 xs i).length ≤ c0 ∧ k95.C w A0 (rd_L8 xs i).length (rd_L8 xs i) := by
  obtain ⟨ad, c, e, _, hK, hc0⟩ := Kd.C_get h ([] : List S95) i h0 h1
  have hc : ∀ j u, c[j]? = some u → w.cell? (ad.add (i.toNat * 1 + j)) = some u := hc0
  obtain ⟨A0, c0, rfl, l0, g0⟩ := hK
  exact ⟨ad, A0, c0, e, by have hq := hc 0 _ rfl; rwa [Nat.mul_one, Nat.add_zero] at hq, l0, g0⟩

/-! #### struct type 90 -/
structure S90 where
  f0 : ByteArray
  f1 : (List S43)
  f2 : (List S95)
def z90 : S90 := ⟨(⟨#[]⟩ : ByteArray), ([] : List S43), ([] : List S95)⟩
def k90 : Kd S90 := Kd.iso (Kd.pair Kd.string (Kd.pair (Kd.slice 43 k43) (Kd.slice 95 k95))) (fun x : S90 => (x.f0, x.f1, x.f2))
theorem k90_open {w : World} {x : S90} {cs : List Value} (h : k90.K w x cs) : ∃ A1 c1 A2 c2, cs = [.string x.f0, .slice A1 x.f1.length c1, .slice A2 x.f2.length c2] ∧ x.f1.length ≤ c1 ∧ k43.C w A1 x.f1.length x.f1 ∧ x.f2.length ≤ c2 ∧ k95.C w A2 x.f2.length x.f2 := by
  obtain ⟨_, _, rfl, rfl, ⟨_, _, rfl, ⟨A1, c1, rfl, l1, g1⟩, ⟨A2, c2, rfl, l2, g2⟩⟩⟩ := h
  exact ⟨A1, c1, A2, c2, rfl, l1, g1, l2, g2⟩
theorem k90_openM {w : World} {base : Nat} {ok : Nat → Prop} {x : S90} {cs : List Value} (h : k90.M w base ok x cs) : ∃ v1 v2, cs = [.string x.f0, v1, v2] ∧ k43.R 43 w base ok v1 x.f1 ∧ k95.R 95 w base ok v2 x.f2 := by
  obtain ⟨_, _, rfl, rfl, ⟨_, _, rfl, ⟨v1, rfl, g1⟩, ⟨v2, rfl, g2⟩⟩⟩ := h
  exact ⟨v1, v2, rfl, g1, g2⟩
theorem k90_mk (w : World) (x : S90) {A1 : Option Addr} {c1 : Nat} (l1 : x.f1.length ≤ c1) (g1 : k43.C w A1 x.f1.length x.f1) {A2 : Option Addr} {c2 : Nat} (l2 : x.f2.length ≤ c2) (g2 : k95.C w A2 x.f2.length x.f2) : k90.K w x [.string x.f0, .slice A1 x.f1.length c1, .slice A2 x.f2.length c2] := ⟨[.string x.f0], [.slice A1 x.f1.length c1, .slice A2 x.f2.length c2], rfl, rfl, ⟨[.slice A1 x.f1.length c1], [.slice A2 x.f2.length c2], rfl, ⟨A1, c1, rfl, l1, g1⟩, ⟨A2, c2, rfl, l2, g2⟩⟩⟩
theorem k90_mkM (w : World) (base : Nat) (ok : Nat → Prop) (x : S90) {v1 : Value} (g1 : k43.R 43 w base ok v1 x.f1) {v2 : Value} (g2 : k95.R 95 w base ok v2 x.f2) : k90.M w base ok x [.string x.f0, v1, v2] := ⟨[.string x.f0], [v1, v2], rfl, rfl, ⟨[v1], [v2], rfl, ⟨v1, rfl, g1⟩, ⟨v2, rfl, g2⟩⟩⟩
theorem k90_openF {W : World} {ok : Nat → Prop} {x : S90} {cs : List Value} (h : Kd.FK k90 W ok x cs) : ∃ A1 c1 A2 c2, cs = [.string x.f0, .slice A1 x.f1.length c1, .slice A2 x.f2.length c2] ∧ x.f1.length ≤ c1 ∧ Kd.F k43 W ok A1 x.f1.length x.f1 ∧ x.f2.length ≤ c2 ∧ Kd.F k95 W ok A2 x.f2.length x.f2 := by
  obtain ⟨A1, c1, A2, c2, rfl, l1, _, l2, _⟩ := k90_open (Kd.FK_now h)
  exact ⟨A1, c1, A2, c2, rfl, l1, (fun W' hW => by obtain ⟨A1_, c1_, A2_, c2_, he, l1_, g1_, l2_, g2_⟩ := k90_open (h W' hW); injection (Option.some.inj (show some (Value.slice A1 x.f1.length c1) = some (Value.slice A1_ x.f1.length c1_) from congrArg (fun l => l[1]?) he)) with ha_ _ _; rw [ha_]; exact g1_), l2, (fun W' hW => by obtain ⟨A1_, c1_, A2_, c2_, he, l1_, g1_, l2_, g2_⟩ := k90_open (h W' hW); injection (Option.some.inj (show some (Value.slice A2 x.f2.length c2) = some (Value.slice A2_ x.f2.length c2_) from congrArg (fun l => l[2]?) he)) with ha_ _ _; rw [ha_]; exact g2_)⟩
theorem k90_mkF (W : World) (ok : Nat → Prop) (x : S90) {A1 : Option Addr} {c1 : Nat} (l1 : x.f1.length ≤ c1) (g1 : Kd.F k43 W ok A1 x.f1.length x.f1) {A2 : Option Addr} {c2 : Nat} (l2 : x.f2.length ≤ c2) (g2 : Kd.F k95 W ok A2 x.f2.length x.f2) : Kd.FK k90 W ok x [.string x.f0, .slice A1 x.f1.length c1, .slice A2 x.f2.length c2] := fun W2 hW => k90_mk W2 x l1 (g1 W2 hW) l2 (g2 W2 hW)
def rd_T90 (xs : List S90) (i : Int) : S90 := xs.getD i.toNat z90
theorem at_T90 {w : World} {A : Option Addr} {n : Nat} {xs : List S90} (h : Kd.C k90 w A n xs) (i : Int) (h0 : 0 ≤ i) (h1 : i < n) : ∃ ad A1 c1 A2 c2, A = some ad ∧ w.cell? (ad.add (i.toNat * 3)) = some (.string (rd_T90 xs i).f0) ∧ w.cell? ⟨(ad.add (i.toNat * 3)).block, (ad.add (i.toNat * 3)).off + 1, none⟩ = some (.slice A1 (rd_T90 xs i).f1.length c1) ∧ w.cell? ⟨(ad.add (i.toNat * 3)).block, (ad.add (i.toNat * 3)).off + 2, none⟩ = some (.slice A2 (rd_T90 xs i).f2.length c2) ∧ (rd_T90 xs i).f1.length ≤ c1 ∧ k43.C w A1 (rd_T90 xs i).f1.length (rd_T90 xs i).f1 ∧ (rd_T90 xs i).f2.length ≤ c2 ∧ k95.C w A2 (rd_T90 xs i).f2.length (rd_T90 xs i).f2 := by
  obtain ⟨ad, c, e, _, hK, hc0⟩ := Kd.C_get h z90 i h0 h1
  have hc : ∀ j u, c[j]? = some u → w.cell? (ad.add (i.toNat * 3 + j)) = some u := hc0
  obtain ⟨A1, c1, A2, c2, rfl, l1, g1, l2, g2⟩ := k90_open hK
  exact ⟨ad, A1, c1, A2, c2, e, hc 0 _ rfl, by rw [← add_field _ _ 1 (by omega)]; exact hc 1 _ rfl, by rw [← add_field _ _ 2 (by omega)]; exact hc 2 _ rfl, l1, g1, l2, g2⟩

def rd_L10 (xs : List (List S90)) (i : Int) : (List S90) := xs.getD i.toNat ([] : List S90)
theorem at_L10 {w : World} {A : Option Addr} {n : Nat} {xs : List (List S90)} (h : Kd.C (Kd.slice 90 k90) w A n xs) (i : Int) (h0 : 0 ≤ i) (h1 : i < n) : ∃ ad A0 c0, A = some ad ∧ w.cell? (ad.add i.toNat) = some (.slice A0 (rd_L10 xs i).length c0) ∧ (rd_L10 xs i).length ≤ c0 ∧ k90.C w A0 (rd_L10 xs i).length (rd_L10 xs i) := by
  obtain ⟨ad, c, e, _, hK, hc0⟩ := Kd.C_get h ([] : List S90) i h0 h1
  have hc : ∀ j u, c[j]? = some u → w.cell? (ad.add (i.toNat * 1 + j)) = some u := hc0
  obtain ⟨A0, c0, rfl, l0, g0⟩ := hK
  exact ⟨ad, A0, c0, e, by have hq := hc 0 _ rfl; rwa [Nat.mul_one, Nat.add_zero] at hq, l0, g0⟩

/-! #### struct type 46 -/
structure S46 where
  f0 : S43
  f1 : (List S90)
def z46 : S46 := ⟨z43, ([] : List S90)⟩
def k46 : Kd S46 := Kd.iso (Kd.pair k43 (Kd.slice 90 k90)) (fun x : S46 => (x.f0, x.f1))
theorem k46_open {w : World} {x : S46} {cs : List Value} (h : k46.K w x cs) : ∃ A0 c0 A4 c4 A5 c5 A6 c6, cs = [.slice A0 x.f0.f0.length c0, .int .i64 x.f0.f1.f0, .string x.f0.f1.f1, .int .i64 x.f0.f1.f2, .slice A4 x.f0.f1.f3.length c4, .slice A5 x.f0.f1.f4.length c5, .slice A6 x.f1.length c6] ∧ x.f0.f0.length ≤ c0 ∧ Kd.string.C w A0 x.f0.f0.length x.f0.f0 ∧ x.f0.f1.f3.length ≤ c4 ∧ Kd.string.C w A4 x.f0.f1.f3.length x.f0.f1.f3 ∧ x.f0.f1.f4.length ≤ c5 ∧ k41.C w A5 x.f0.f1.f4.length x.f0.f1.f4 ∧ x.f1.length ≤ c6 ∧ k90.C w A6 x.f1.length x.f1 := by
  obtain ⟨_, _, rfl, s0, ⟨A6, c6, rfl, l6, g6⟩⟩ := h
  obtain ⟨A0, c0, A4, c4, A5, c5, rfl, l0, g0, l4, g4, l5, g5⟩ := k43_open s0
  exact ⟨A0, c0, A4, c4, A5, c5, A6, c6, rfl, l0, g0, l4, g4, l5, g5, l6, g6⟩
theorem k46_openM {w : World} {base : Nat} {ok : Nat → Prop} {x : S46} {cs : List Value} (h : k46.M w base ok x cs) : ∃ v0 v4 v5 v6, cs = [v0, .int .i64 x.f0.f1.f0, .string x.f0.f1.f1, .int .i64 x.f0.f1.f2, v4, v5, v6] ∧ Kd.string.R 9 w base ok v0 x.f0.f0 ∧ Kd.string.R 9 w base ok v4 x.f0.f1.f3 ∧ k41.R 41 w base ok v5 x.f0.f1.f4 ∧ k90.R 90 w base ok v6 x.f1 := by
  obtain ⟨_, _, rfl, s0, ⟨v6, rfl, g6⟩⟩ := h
  obtain ⟨v0, v4, v5, rfl, g0, g4, g5⟩ := k43_openM s0
  exact ⟨v0, v4, v5, v6, rfl, g0, g4, g5, g6⟩
theorem k46_mk (w : World) (x : S46) {A0 : Option Addr} {c0 : Nat} (l0 : x.f0.f0.length ≤ c0) (g0 : Kd.string.C w A0 x.f0.f0.length x.f0.f0) {A4 : Option Addr} {c4 : Nat} (l4 : x.f0.f1.f3.length ≤ c4) (g4 : Kd.string.C w A4 x.f0.f1.f3.length x.f0.f1.f3) {A5 : Option Addr} {c5 : Nat} (l5 : x.f0.f1.f4.length ≤ c5) (g5 : k41.C w A5 x.f0.f1.f4.length x.f0.f1.f4) {A6 : Option Addr} {c6 : Nat} (l6 : x.f1.length ≤ c6) (g6 : k90.C w A6 x.f1.length x.f1) : k46.K w x [.slice A0 x.f0.f0.length c0, .int .i64 x.f0.f1.f0, .string x.f0.f1.f1, .int .i64 x.f0.f1.f2, .slice A4 x.f0.f1.f3.length c4, .slice A5 x.f0.f1.f4.length c5, .slice A6 x.f1.length c6] := ⟨[.slice A0 x.f0.f0.length c0, .int .i64 x.f0.f1.f0, .string x.f0.f1.f1, .int .i64 x.f0.f1.f2, .slice A4 x.f0.f1.f3.length c4, .slice A5 x.f0.f1.f4.length c5], [.slice A6 x.f1.length c6], rfl, (k43_mk w x.f0 l0 g0 l4 g4 l5 g5), ⟨A6, c6, rfl, l6, g6⟩⟩
theorem k46_mkM (w : World) (base : Nat) (ok : Nat → Prop) (x : S46) {v0 : Value} (g0 : Kd.string.R 9 w base ok v0 x.f0.f0) {v4 : Value} (g4 : Kd.string.R 9 w base ok v4 x.f0.f1.f3) {v5 : Value} (g5 : k41.R 41 w base ok v5 x.f0.f1.f4) {v6 : Value} (g6 : k90.R 90 w base ok v6 x.f1) : k46.M w base ok x [v0, .int .i64 x.f0.f1.f0, .string x.f0.f1.f1, .int .i64 x.f0.f1.f2, v4, v5, v6] := ⟨[v0, .int .i64 x.f0.f1.f0, .string x.f0.f1.f1, .int .i64 x.f0.f1.f2, v4, v5], [v6], rfl, (k43_mkM w base ok x.f0 g0 g4 g5), ⟨v6, rfl, g6⟩⟩
theorem k46_openF {W : World} {ok : Nat → Prop} {x : S46} {cs : List Value} (h : Kd.FK k46 W ok x cs) : ∃ A0 c0 A4 c4 A5 c5 A6 c6, cs = [.slice A0 x.f0.f0.length c0, .int .i64 x.f0.f1.f0, .string x.f0.f1.f1, .int .i64 x.f0.f1.f2, .slice A4 x.f0.f1.f3.length c4, .slice A5 x.f0.f1.f4.length c5, .slice A6 x.f1.length c6] ∧ x.f0.f0.length ≤ c0 ∧ Kd.F Kd.string W ok A0 x.f0.f0.length x.f0.f0 ∧ x.f0.f1.f3.length ≤ c4 ∧ Kd.F Kd.string W ok A4 x.f0.f1.f3.length x.f0.f1.f3 ∧ x.f0.f1.f4.length ≤ c5 ∧ Kd.F k41 W ok A5 x.f0.f1.f4.length x.f0.f1.f4 ∧ x.f1.length ≤ c6 ∧ Kd.F k90 W ok A6 x.f1.length x.f1 := by
  obtain ⟨A0, c0, A4, c4, A5, c5, A6, c6, rfl, l0, _, l4, _, l5, _, l6, _⟩ := k46_open (Kd.FK_now h)
  exact ⟨A0, c0, A4, c4, A5, c5, A6, c6, rfl, l0, (fun W' hW => by obtain ⟨A0_, c0_, A4_, c4_, A5_, c5_, A6_, c6_, he, l0_, g0_, l4_, g4_, l5_, g5_, l6_, g6_⟩ := k46_open (h W' hW); injection (Option.some.inj (show some (Value.slice A0 x.f0.f0.length c0) = some (Value.slice A0_ x.f0.f0.length c0_) from congrArg (fun l => l[0]?) he)) with ha_ _ _; rw [ha_]; exact g0_), l4, (fun W' hW => by obtain ⟨A0_, c0_, A4_, c4_, A5_, c5_, A6_, c6_, he, l0_, g0_, l4_, g4_, l5_, g5_, l6_, g6_⟩ := k46_open (h W' hW); injection (Option.some.inj (show some (Value.slice A4 x.f0.f1.f3.length c4) = some (Value.slice A4_ x.f0.f1.f3.length c4_) from congrArg (fun l => l[4]?) he)) with ha_ _ _; rw [ha_]; exact g4_), l5, (fun W' hW => by obtain ⟨A0_, c0_, A4_, c4_, A5_, c5_, A6_, c6_, he, l0_, g0_, l4_, g4_, l5_, g5_, l6_, g6_⟩ := k46_open (h W' hW); injection (Option.some.inj (show some (Value.slice A5 x.f0.f1.f4.length c5) = some (Value.slice A5_ x.f0.f1.f4.length c5_) from congrArg (fun l => l[5]?) he)) with ha_ _ _; rw [ha_]; exact g5_), l6, (fun W' hW => by obtain ⟨A0_, c0_, A4_, c4_, A5_, c5_, A6_, c6_, he, l0_, g0_, l4_, g4_, l5_, g5_, l6_, g6_⟩ := k46_open (h W' hW); injection (Option.some.inj (show some (Value.slice A6 x.f1.length c6) = some (Value.slice A6_ x.f1.length c6_) from congrArg (fun l => l[6]?) he)) with ha_ _ _; rw [ha_]; exact g6_)⟩
theorem k46_mkF (W : World) (ok : Nat → Prop) (x : S46) {A0 : Option Addr} {c0 : Nat} (l0 : x.f0.f0.length ≤ c0) (g0 : Kd.F Kd.string W ok A0 x.f0.f0.length x.f0.f0) {A4 : Option Addr} {c4 : Nat} (l4 : x.f0.f1.f3.length ≤ c4) (g4 : Kd.F Kd.string W ok A4 x.f0.f1.f3.length x.f0.f1.f3) {A5 : Option Addr} {c5 : Nat} (l5 : x.f0.f1.f4.length ≤ c5) (g5 : Kd.F k41 W ok A5 x.f0.f1.f4.length x.f0.f1.f4) {A6 : Option Addr} {c6 : Nat} (l6 : x.f1.length ≤ c6) (g6 : Kd.F k90 W ok A6 x.f1.length x.f1) : Kd.FK k46 W ok x [.slice A0 x.f0.f0.length c0, .int .i64 x.f0.f1.f0, .string x.f0.f1.f1, .int .i64 x.f0.f1.f2, .slice A4 x.f0.f1.f3.length c4, .slice A5 x.f0.f1.f4.length c5, .slice A6 x.f1.length c6] := fun W2 hW => k46_mk W2 x l0 (g0 W2 hW) l4 (g4 W2 hW) l5 (g5 W2 hW) l6 (g6 W2 hW)
def rd_T46 (xs : List S46) (i : Int) : S46 := xs.getD i.toNat z46
theorem at_T46 {w : World} {A : Option Addr} {n : Nat} {xs : List S46} (h : Kd.C k46 w A n xs) (i : Int) (h0 : 0 ≤ i) (h1 : i < n) : ∃ ad A0 c0 A4 c4 A5 c5 A6 c6, A = some ad ∧ w.cell? (ad.add (i.toNat * 7)) = some (.slice A0 (rd_T46 xs i).f0.f0.length c0) ∧ w.cell? ⟨(ad.add (i.toNat * 7)).block, (ad.add (i.toNat * 7)).off + 1, none⟩ = some (.int .i64 (rd_T46 xs i).f0.f1.f0) ∧ w.cell? ⟨(ad.add (i.toNat * 7)).block, (ad.add (i.toNat * 7)).off + 2, none⟩ = some (.string (rd_T46 xs i).f0.f1.f1) ∧ w.cell? ⟨(ad.add (i.toNat * 7)).block, (ad.add (i.toNat * 7)).off + 3, none⟩ = some (.int .i64 (rd_T46 xs i).f0.f1.f2) ∧ w.cell? ⟨(ad.add (i.toNat * 7)).block, (ad.add (i.toNat * 7)).off + 4, none⟩ = some (.slice A4 (rd_T46 xs i).f0.f1.f3.length c4) ∧ w.cell? ⟨(ad.add (i.toNat * 7)).block, (ad.add (i.toNat * 7)).off + 5, none⟩ = some (.slice A5 (rd_T46 xs i).f0.f1.f4.length c5) ∧ w.cell? ⟨(ad.add (i.toNat * 7)).block, (ad.add (i.toNat * 7)).off + 6, none⟩ = some (.slice A6 (rd_T46 xs i).f1.length c6) ∧ (rd_T46 xs i).f0.f0.length ≤ c0 ∧ Kd.string.C w A0 (rd_T46 xs i).f0.f0.length (rd_T46 xs i).f0.f0 ∧ (rd_T46 xs i).f0.f1.f3.length ≤ c4 ∧ Kd.string.C w A4 (rd_T46 xs i).f0.f1.f3.length (rd_T46 xs i).f0.f1.f3 ∧ (rd_T46 xs i).f0.f1.f4.length ≤ c5 ∧ k41.C w A5 (rd_T46 xs i).f0.f1.f4.length (rd_T46 xs i).f0.f1.f4 ∧ (rd_T46 xs i).f1.length ≤ c6 ∧ k90.C w A6 (rd_T46 xs i).f1.length (rd_T46 xs i).f1 := by
  obtain ⟨ad, c, e, _, hK, hc0⟩ := Kd.C_get h z46 i h0 h1
  have hc : ∀ j u, c[j]? = some u → w.cell? (ad.add (i.toNat * 7 + j)) = some u := hc0
  obtain ⟨A0, c0, A4, c4, A5, c5, A6, c6, rfl, l0, g0, l4, g4, l5, g5, l6, g6⟩ := k46_open hK
  exact ⟨ad, A0, c0, A4, c4, A5, c5, A6, c6, e, hc 0 _ rfl, by rw [← add_field _ _ 1 (by omega)]; exact hc 1 _ rfl, by rw [← add_field _ _ 2 (by omega)]; exact hc 2 _ rfl, by rw [← add_field _ _ 3 (by omega)]; exact hc 3 _ rfl, by rw [← add_field _ _ 4 (by omega)]; exact hc 4 _ rfl, by rw [← add_field _ _ 5 (by omega)]; exact hc 5 _ rfl, by rw [← add_field _ _ 6 (by omega)]; exact hc 6 _ rfl, l0, g0, l4, g4, l5, g5, l6, g6⟩

def rd_L12 (xs : List (List S46)) (i : Int) : (List S46) := xs.getD i.toNat ([] : List S46)
theorem at_L12 {w : World} {A : Option Addr} {n : Nat} {xs : List (List S46)} (h : Kd.C (Kd.slice 46 k46) w A n xs) (i : Int) (h0 : 0 ≤ i) (h1 : i < n) : ∃ ad A0 c0, A = some ad ∧ w.cell? (ad.add i.toNat) = some (.slice A0 (rd_L12 xs i).length c0) ∧ (rd_L12 xs i).length ≤ c0 ∧ k46.C w A0 (rd_L12 xs i).length (rd_L12 xs i) := by
  obtain ⟨ad, c, e, _, hK, hc0⟩ := Kd.C_get h ([] : List S46) i h0 h1
  have hc : ∀ j u, c[j]? = some u → w.cell? (ad.add (i.toNat * 1 + j)) = some u := hc0
  obtain ⟨A0, c0, rfl, l0, g0⟩ := hK
  exact ⟨ad, A0, c0, e, by have hq := hc 0 _ rfl; rwa [Nat.mul_one, Nat.add_zero] at hq, l0, g0⟩

/-! #### struct type 36 -/
structure S36 where
  f0 : ByteArray
  f1 : (List ByteArray)
  f2 : (List ByteArray)
  f3 : (List ByteArray)
  f4 : (List S46)
def z36 : S36 := ⟨(⟨#[]⟩ : ByteArray), ([] : List ByteArray), ([] : List ByteArray), ([] : List ByteArray), ([] : List S46)⟩
def k36 : Kd S36 := Kd.iso (Kd.pair Kd.string (Kd.pair (Kd.slice 9 Kd.string) (Kd.pair (Kd.slice 9 Kd.string) (Kd.pair (Kd.slice 9 Kd.string) (Kd.slice 46 k46))))) (fun x : S36 => (x.f0, x.f1, x.f2, x.f3, x.f4))
theorem k36_open {w : World} {x : S36} {cs : List Value} (h : k36.K w x cs) : ∃ A1 c1 A2 c2 A3 c3 A4 c4, cs = [.string x.f0, .slice A1 x.f1.length c1, .slice A2 x.f2.length c2, .slice A3 x.f3.length c3, .slice A4 x.f4.length c4] ∧ x.f1.length ≤ c1 ∧ Kd.string.C w A1 x.f1.length x.f1 ∧ x.f2.length ≤ c2 ∧ Kd.string.C w A2 x.f2.length x.f2 ∧ x.f3.length ≤ c3 ∧ Kd.string.C w A3 x.f3.length x.f3 ∧ x.f4.length ≤ c4 ∧ k46.C w A4 x.f4.length x.f4 := by
  obtain ⟨_, _, rfl, rfl, ⟨_, _, rfl, ⟨A1, c1, rfl, l1, g1⟩, ⟨_, _, rfl, ⟨A2, c2, rfl, l2, g2⟩, ⟨_, _, rfl, ⟨A3, c3, rfl, l3, g3⟩, ⟨A4, c4, rfl, l4, g4⟩⟩⟩⟩⟩ := h
  exact ⟨A1, c1, A2, c2, A3, c3, A4, c4, rfl, l1, g1, l2, g2, l3, g3, l4, g4⟩
theorem k36_openM {w : World} {base : Nat} {ok : Nat → Prop} {x : S36} {cs : List Value} (h : k36.M w base ok x cs) : ∃ v1 v2 v3 v4, cs = [.string x.f0, v1, v2, v3, v4] ∧ Kd.string.R 9 w base ok v1 x.f1 ∧ Kd.string.R 9 w base ok v2 x.f2 ∧ Kd.string.R 9 w base ok v3 x.f3 ∧ k46.R 46 w base ok v4 x.f4 := by
  obtain ⟨_, _, rfl, rfl, ⟨_, _, rfl, ⟨v1, rfl, g1⟩, ⟨_, _, rfl, ⟨v2, rfl, g2⟩, ⟨_, _, rfl, ⟨v3, rfl, g3⟩, ⟨v4, rfl, g4⟩⟩⟩⟩⟩ := h
  exact ⟨v1, v2, v3, v4, rfl, g1, g2, g3, g4⟩
theorem k36_mk (w : World) (x : S36) {A1 : Option Addr} {c1 : Nat} (l1 : x.f1.length ≤ c1) (g1 : Kd.string.C w A1 x.f1.length x.f1) {A2 : Option Addr} {c2 : Nat} (l2 : x.f2.length ≤ c2) (g2 : Kd.string.C w A2 x.f2.length x.f2) {A3 : Option Addr} {c3 : Nat} (l3 : x.f3.length ≤ c3) (g3 : Kd.string.C w A3 x.f3.length x.f3) {A4 : Option Addr} {c4 : Nat} (l4 : x.f4.length ≤ c4) (g4 : k46.C w A4 x.f4.length x.f4) : k36.K w x [.string x.f0, .slice A1 x.f1.length c1, .slice A2 x.f2.length c2, .slice A3 x.f3.length c3, .slice A4 x.f4.length c4] := ⟨[.string x.f0], [.slice A1 x.f1.length c1, .slice A2 x.f2.length c2, .slice A3 x.f3.length c3, .slice A4 x.f4.length c4], rfl, rfl, ⟨[.slice A1 x.f1.length c1], [.slice A2 x.f2.length c2, .slice A3 x.f3.length c3, .slice A4 x.f4.length c4], rfl, ⟨A1, c1, rfl, l1, g1⟩, ⟨[.slice A2 x.f2.length c2], [.slice A3 x.f3.length c3, .slice A4 x.f4.length c4], rfl, ⟨A2, c2, rfl, l2, g2⟩, ⟨[.slice A3 x.f3.length c3], [.slice A4 x.f4.length c4], rfl, ⟨A3, c3, rfl, l3, g3⟩, ⟨A4, c4, rfl, l4, g4⟩⟩⟩⟩⟩
theorem k36_mkM (w : World) (base : Nat) (ok : Nat → Prop) (x : S36) {v1 : Value} (g1 : Kd.string.R 9 w base ok v1 x.f1) {v2 : Value} (g2 : Kd.string.R 9 w base ok v2 x.f2) {v3 : Value} (g3 : Kd.string.R 9 w base ok v3 x.f3) {v4 : Value} (g4 : k46.R 46 w base ok v4 x.f4) : k36.M w base ok x [.string x.f0, v1, v2, v3, v4] := ⟨[.string x.f0], [v1, v2, v3, v4], rfl, rfl, ⟨[v1], [v2, v3, v4], rfl, ⟨v1, rfl, g1⟩, ⟨[v2], [v3, v4], rfl, ⟨v2, rfl, g2⟩, ⟨[v3], [v4], rfl, ⟨v3, rfl, g3⟩, ⟨v4, rfl, g4⟩⟩⟩⟩⟩
theorem k36_openF {W : World} {ok : Nat → Prop} {x : S36} {cs : List Value} (h : Kd.FK k36 W ok x cs) : ∃ A1 c1 A2 c2 A3 c3 A4 c4, cs = [.string x.f0, .slice A1 x.f1.length c1, .slice A2 x.f2.length c2, .slice A3 x.f3.length c3, .slice A4 x.f4.length c4] ∧ x.f1.length ≤ c1 ∧ Kd.F Kd.string W ok A1 x.f1.length x.f1 ∧ x.f2.length ≤ c2 ∧ Kd.F Kd.string W ok A2 x.f2.length x.f2 ∧ x.f3.length ≤ c3 ∧ Kd.F Kd.string W ok A3 x.f3.length x.f3 ∧ x.f4.length ≤ c4 ∧ Kd.F k46 W ok A4 x.f4.length x.f4 := by
  obtain ⟨A1, c1, A2, c2, A3, c3, A4, c4, rfl, l1, _, l2, _, l3, _, l4, _⟩ := k36_open (Kd.FK_now h)
  exact ⟨A1, c1, A2, c2, A3, c3, A4, c4, rfl, l1, (fun W' hW => by obtain ⟨A1_, c1_, A2_, c2_, A3_, c3_, A4_, c4_, he, l1_, g1_, l2_, g2_, l3_, g3_, l4_, g4_⟩ := k36_open (h W' hW); injection (Option.some.inj (show some (Value.slice A1 x.f1.length c1) = some (Value.slice A1_ x.f1.length c1_) from congrArg (fun l => l[1]?) he)) with ha_ _ _; rw [ha_]; exact g1_), l2, (fun W' hW => by obtain ⟨A1_, c1_, A2_, c2_, A3_, c3_, A4_, c4_, he, l1_, g1_, l2_, g2_, l3_, g3_, l4_, g4_⟩ := k36_open (h W' hW); injection (Option.some.inj (show some (Value.slice A2 x.f2.length c2) = some (Value.slice A2_ x.f2.length c2_) from congrArg (fun l => l[2]?) he)) with ha_ _ _; rw [ha_]; exact g2_), l3, (fun W' hW => by obtain ⟨A1_, c1_, A2_, c2_, A3_, c3_, A4_, c4_, he, l1_, g1_, l2_, g2_, l3_, g3_, l4_, g4_⟩ := k36_open (h W' hW); injection (Option.some.inj (show some (Value.slice A3 x.f3.length c3) = some (Value.slice A3_ x.f3.length c3_) from congrArg (fun l => l[3]?) he)) with ha_ _ _; rw [ha_]; exact g3_), l4, (fun W' hW => by obtain ⟨A1_, c1_, A2_, c2_, A3_, c3_, A4_, c4_, he, l1_, g1_, l2_, g2_, l3_, g3_, l4_, g4_⟩ := k36_open (h W' hW); injection (Option.some.inj (show some (Value.slice A4 x.f4.length c4) = some (Value.slice A4_ x.f4.length c4_) from congrArg (fun l => l[4]?) he)) with ha_ _ _; rw [ha_]; exact g4_)⟩
theorem k36_mkF (W : World) (ok : Nat → Prop) (x : S36) {A1 : Option Addr} {c1 : Nat} (l1 : x.f1.length ≤ c1) (g1 : Kd.F Kd.string W ok A1 x.f1.length x.f1) {A2 : Option Addr} {c2 : Nat} (l2 : x.f2.length ≤ c2) (g2 : Kd.F Kd.string W ok A2 x.f2.length x.f2) {A3 : Option Addr} {c3 : Nat} (l3 : x.f3.length ≤ c3) (g3 : Kd.F Kd.string W ok A3 x.f3.length x.f3) {A4 : Option Addr} {c4 : Nat} (l4 : x.f4.length ≤ c4) (g4 : Kd.F k46 W ok A4 x.f4.length x.f4) : Kd.FK k36 W ok x [.string x.f0, .slice A1 x.f1.length c1, .slice A2 x.f2.length c2, .slice A3 x.f3.length c3, .slice A4 x.f4.length c4] := fun W2 hW => k36_mk W2 x l1 (g1 W2 hW) l2 (g2 W2 hW) l3 (g3 W2 hW) l4 (g4 W2 hW)
def rd_T36 (xs : List S36) (i : Int) : S36 := xs.getD i.toNat z36
theorem at_T36 {w : World} {A : Option Addr} {n : Nat} {xs : List S36} (h : Kd.C k36 w A n xs) (i : Int) (h0 : 0 ≤ i) (h1 : i < n) : ∃ ad A1 c1 A2 c2 A3 c3 A4 c4, A = some ad ∧ w.cell? (ad.add (i.toNat * 5)) = some (.string (rd_T36 xs i).f0) ∧ w.cell? ⟨(ad.add (i.toNat * 5)).block, (ad.add (i.toNat * 5)).off + 1, none⟩ = some (.slice A1 (rd_T36 xs i).f1.length c1) ∧ w.cell? ⟨(ad.add (i.toNat * 5)).block, (ad.add (i.toNat * 5)).off + 2, none⟩ = some (.slice A2 (rd_T36 xs i).f2.length c2) ∧ w.cell? ⟨(ad.add (i.toNat * 5)).block, (ad.add (i.toNat * 5)).off + 3, none⟩ = some (.slice A3 (rd_T36 xs i).f3.length c3) ∧ w.cell? ⟨(ad.add (i.toNat * 5)).block, (ad.add (i.toNat * 5)).off + 4, none⟩ = some (.slice A4 (rd_T36 xs i).f4.length c4) ∧ (rd_T36 xs i).f1.length ≤ c1 ∧ Kd.string.C w A1 (rd_T36 xs i).f1.length (rd_T36 xs i).f1 ∧ (rd_T36 xs i).f2.length ≤ c2 ∧ Kd.string.C w A2 (rd_T36 xs i).f2.length (rd_T36 xs i).f2 ∧ (rd_T36 xs i).f3.length ≤ c3 ∧ Kd.string.C w A3 (rd_T36 xs i).f3.length (rd_T36 xs i).f3 ∧ (rd_T36 xs i).f4.length ≤ c4 ∧ k46.C w A4 (rd_T36 xs i).f4.length (rd_T36 xs i).f4 := by
  obtain ⟨ad, c, e, _, hK, hc0⟩ := Kd.C_get h z36 i h0 h1
  have hc : ∀ j u, c[j]? = some u → w.cell? (ad.add (i.toNat * 5 + j)) = some u := hc0
  obtain ⟨A1, c1, A2, c2, A3, c3, A4, c4, rfl, l1, g1, l2, g2, l3, g3, l4, g4⟩ := k36_open hK
  exact ⟨ad, A1, c1, A2, c2, A3, c3, A4, c4, e, hc 0 _ rfl, by rw [← add_field _ _ 1 (by omega)]; exact hc 1 _ rfl, by rw [← add_field _ _ 2 (by omega)]; exact hc 2 _ rfl, by rw [← add_field _ _ 3 (by omega)]; exact hc 3 _ rfl, by rw [← add_field _ _ 4 (by omega)]; exact hc 4 _ rfl, l1, g1, l2, g2, l3, g3, l4, g4⟩

end Go.Proofs.Ytcekbkbhaceilaa.PScope
