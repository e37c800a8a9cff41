/- A text of this claim, cut to what its theorem reaches (wip/py/stage2.py). -/
import Derived.Test.YtggfnbnochmkdaaGreatProg
import Derived.Test.YtggfnbnochmkdaaGreatWOne
import Derived.Laws.StructEq
namespace Go.Proofs.YtggfnbnochmkdaaGreat.PScope
open Go.RowKit Go.Proofs.YtggfnbnochmkdaaGreatW.PrintWords Go.Proofs.YtggfnbnochmkdaaGreatW.PrintLast Go.Proofs.YtggfnbnochmkdaaGreatW.PrintMore
attribute [local go_sem] max2_int min2_int max_two min_two max_three min_three max_four min_four
set_option linter.unusedVariables false
set_option linter.unusedSimpArgs false
def errW : Option Int → Value
 | none => .nilIface
 | some c => .iface 0 (.int .i64 c)
theorem errW_none : errW none = .nilIface := rfl
theorem errW_some (c : Int) : errW (some c) = .iface 0 (.int .i64 c) := rfl
theorem info9 : (Tryz.prog.info? 9).map (fun i => (i.zero, i.size, i.bytes)) = some (some (.string ⟨#[]⟩), 1, 16) := by kernel_rfl
structure S38 where
 f0 : ByteArray
 f1 : (List ByteArray)
def z38 : S38 := ⟨(⟨#[]⟩ : ByteArray), ([] : List ByteArray)⟩
def k38 : Kd S38 := Kd.iso (Kd.pair Kd.string (Kd.slice 9 Kd.string)) (fun x : S38 => (x.f0, x.f1))
theorem k38_open {w : World} {x : S38} {cs : List Value} (h : k38.K w x cs) : ∃ A1 c1, cs = [.string x.f0, .slice A1 x.f1.length c1] ∧ x.f1.length ≤ c1 ∧ Kd.string.C w A1 x.f1.length x.f1 := by
 obtain ⟨_, _, rfl, rfl, ⟨A1, c1, rfl, l1, g1⟩⟩ := h
 exact ⟨A1, c1, rfl, l1, g1⟩
theorem k38_mk (w : World) (x : S38) {A1 : Option Addr} {c1 : Nat} (l1 : x.f1.length ≤ c1) (g1 : Kd.string.C w A1 x.f1.length x.f1) : k38.K w x [.string x.f0, .slice A1 x.f1.length c1] := ⟨[.string x.f0], [.slice A1 x.f1.length c1], rfl, rfl, ⟨A1, c1, rfl, l1, g1⟩⟩
def rd_T38 (xs : List S38) (i : Int) : S38 := xs.getD i.toNat z38
theorem at_T38 {w : World} {A : Option Addr} {n : Nat} {xs : List S38} (h : Kd.C k38 w A n xs) (i : Int) (h0 : 0 ≤ i) (h1 : i < n) : ∃ ad A1 c1, A = some ad ∧ w.cell? (ad.add (i.toNat * 2)) = some (.string (rd_T38 xs i).f0) ∧ w.cell? ⟨(ad.add (i.toNat * 2)).block, (ad.add (i.toNat * 2)).off + 1, none⟩ = some (.slice A1 (rd_T38 xs i).f1.length c1) ∧ (rd_T38 xs i).f1.length ≤ c1 ∧ Kd.string.C w A1 (rd_T38 xs i).f1.length (rd_T38 xs i).f1 := by
 obtain ⟨ad, c, e, _, hK, hc0⟩ := Kd.C_get h z38 i h0 h1
 have hc : ∀ j u, c[j]? = some u → w.cell? (ad.add (i.toNat * 2 + j)) = some u := hc0
 obtain ⟨A1, c1, rfl, l1, g1⟩ := k38_open hK
 exact ⟨ad, A1, c1, e, hc 0 _ rfl, by rw [← add_field _ _ 1 (by omega)]; exact hc 1 _ rfl, l1, g1⟩
structure S42 where
 f0 : Int
 f1 : ByteArray
 f2 : Int
 f3 : (List ByteArray)
 f4 : (List S42)
def z42 : S42 := ⟨(0 : Int), (⟨#[]⟩ : ByteArray), (0 : Int), ([] : List ByteArray), ([] : List S42)⟩
def F42 (d : Kd S42) : Kd S42 := Kd.iso (Kd.pair (Kd.int .i64) (Kd.pair Kd.string (Kd.pair (Kd.int .i64) (Kd.pair (Kd.slice 9 Kd.string) (Kd.slice 42 d))))) (fun x : S42 => (x.f0, x.f1, x.f2, x.f3, x.f4))
theorem mono42 : Kd.Mono F42 := Kd.mono_iso _ (Kd.mono_pair (Kd.mono_const _) (Kd.mono_pair (Kd.mono_const _) (Kd.mono_pair (Kd.mono_const _) (Kd.mono_pair (Kd.mono_const _) (Kd.mono_slice 42 Kd.mono_id)))))
theorem sub42 : Kd.Sub F42 [9, 42] := Kd.sub_iso _ (Kd.sub_pair (Kd.sub_const _ (by decide)) (Kd.sub_pair (Kd.sub_const _ (by decide)) (Kd.sub_pair (Kd.sub_const _ (by decide)) (Kd.sub_pair (Kd.sub_const _ (by decide)) (Kd.sub_slice 42 (by decide) Kd.sub_id)))))
theorem sz42 : ∀ n, (Kd.upto F42 5 [9, 42] n).sz = 5 := Kd.upto_sz (fun _ => rfl)
def k42 : Kd S42 := Kd.fix F42 5 [9, 42] sz42 (Kd.upto_E sub42)
theorem k42_open {w : World} {x : S42} {cs : List Value} (h : k42.K w x cs) : ∃ A3 c3 A4 c4, cs = [.int .i64 x.f0, .string x.f1, .int .i64 x.f2, .slice A3 x.f3.length c3, .slice A4 x.f4.length c4] ∧ x.f3.length ≤ c3 ∧ Kd.string.C w A3 x.f3.length x.f3 ∧ x.f4.length ≤ c4 ∧ k42.C w A4 x.f4.length x.f4 := by
 obtain ⟨n, h⟩ := h
 cases n with
 | zero => exact h.elim
 | succ n =>
   obtain ⟨_, _, rfl, rfl, ⟨_, _, rfl, rfl, ⟨_, _, rfl, rfl, ⟨_, _, rfl, ⟨A3, c3, rfl, l3, g3⟩, ⟨A4, c4, rfl, l4, g4⟩⟩⟩⟩⟩ := h
   exact ⟨A3, c3, A4, c4, rfl, l3, g3, l4, Kd.fix_C g4⟩
theorem k42_mk (w : World) (x : S42) {A3 : Option Addr} {c3 : Nat} (l3 : x.f3.length ≤ c3) (g3 : Kd.string.C w A3 x.f3.length x.f3) {A4 : Option Addr} {c4 : Nat} (l4 : x.f4.length ≤ c4) (g4 : k42.C w A4 x.f4.length x.f4) : k42.K w x [.int .i64 x.f0, .string x.f1, .int .i64 x.f2, .slice A3 x.f3.length c3, .slice A4 x.f4.length c4] := by
 obtain ⟨n4, q4⟩ := Kd.fix_C_back mono42 g4
 have r4 := Kd.upto_C_le mono42 sz42 (show n4 ≤ n4 by omega) q4
 exact ⟨n4 + 1, ⟨[.int .i64 x.f0], [.string x.f1, .int .i64 x.f2, .slice A3 x.f3.length c3, .slice A4 x.f4.length c4], rfl, rfl, ⟨[.string x.f1], [.int .i64 x.f2, .slice A3 x.f3.length c3, .slice A4 x.f4.length c4], rfl, rfl, ⟨[.int .i64 x.f2], [.slice A3 x.f3.length c3, .slice A4 x.f4.length c4], rfl, rfl, ⟨[.slice A3 x.f3.length c3], [.slice A4 x.f4.length c4], rfl, ⟨A3, c3, rfl, l3, g3⟩, ⟨A4, c4, rfl, l4, r4⟩⟩⟩⟩⟩⟩
def rd_T42 (xs : List S42) (i : Int) : S42 := xs.getD i.toNat z42
theorem at_T42 {w : World} {A : Option Addr} {n : Nat} {xs : List S42} (h : Kd.C k42 w A n xs) (i : Int) (h0 : 0 ≤ i) (h1 : i < n) : ∃ ad A3 c3 A4 c4, A = some ad ∧ w.cell? (ad.add (i.toNat * 5)) = some (.int .i64 (rd_T42 xs i).f0) ∧ w.cell? ⟨(ad.add (i.toNat * 5)).block, (ad.add (i.toNat * 5)).off + 1, none⟩ = some (.string (rd_T42 xs i).f1) ∧ w.cell? ⟨(ad.add (i.toNat * 5)).block, (ad.add (i.toNat * 5)).off + 2, none⟩ = some (.int .i64 (rd_T42 xs i).f2) ∧ w.cell? ⟨(ad.add (i.toNat * 5)).block, (ad.add (i.toNat * 5)).off + 3, none⟩ = some (.slice A3 (rd_T42 xs i).f3.length c3) ∧ w.cell? ⟨(ad.add (i.toNat * 5)).block, (ad.add (i.toNat * 5)).off + 4, none⟩ = some (.slice A4 (rd_T42 xs i).f4.length c4) ∧ (rd_T42 xs i).f3.length ≤ c3 ∧ Kd.string.C w A3 (rd_T42 xs i).f3.length (rd_T42 xs i).f3 ∧ (rd_T42 xs i).f4.length ≤ c4 ∧ k42.C w A4 (rd_T42 xs i).f4.length (rd_T42 xs i).f4 := by
 obtain ⟨ad, c, e, _, hK, hc0⟩ := Kd.C_get h z42 i h0 h1
 have hc : ∀ j u, c[j]? = some u → w.cell? (ad.add (i.toNat * 5 + j)) = some u := hc0
 obtain ⟨A3, c3, A4, c4, rfl, l3, g3, l4, g4⟩ := k42_open hK
 exact ⟨ad, A3, c3, A4, c4, e, hc 0 _ rfl, by rw [← add_field _ _ 1 (by omega)]; exact hc 1 _ rfl, by rw [← add_field _ _ 2 (by omega)]; exact hc 2 _ rfl, by rw [← add_field _ _ 3 (by omega)]; exact hc 3 _ rfl, by rw [← add_field _ _ 4 (by omega)]; exact hc 4 _ rfl, l3, g3, l4, g4⟩
structure S44 where
 f0 : (List ByteArray)
 f1 : S42
def z44 : S44 := ⟨([] : List ByteArray), z42⟩
def k44 : Kd S44 := Kd.iso (Kd.pair (Kd.slice 9 Kd.string) k42) (fun x : S44 => (x.f0, x.f1))
theorem k44_open {w : World} {x : S44} {cs : List Value} (h : k44.K w x cs) : ∃ A0 c0 A4 c4 A5 c5, cs = [.slice A0 x.f0.length c0, .int .i64 x.f1.f0, .string x.f1.f1, .int .i64 x.f1.f2, .slice A4 x.f1.f3.length c4, .slice A5 x.f1.f4.length c5] ∧ x.f0.length ≤ c0 ∧ Kd.string.C w A0 x.f0.length x.f0 ∧ x.f1.f3.length ≤ c4 ∧ Kd.string.C w A4 x.f1.f3.length x.f1.f3 ∧ x.f1.f4.length ≤ c5 ∧ k42.C w A5 x.f1.f4.length x.f1.f4 := by
 obtain ⟨_, _, rfl, ⟨A0, c0, rfl, l0, g0⟩, s1⟩ := h
 obtain ⟨A4, c4, A5, c5, rfl, l4, g4, l5, g5⟩ := k42_open s1
 exact ⟨A0, c0, A4, c4, A5, c5, rfl, l0, g0, l4, g4, l5, g5⟩
theorem k44_mk (w : World) (x : S44) {A0 : Option Addr} {c0 : Nat} (l0 : x.f0.length ≤ c0) (g0 : Kd.string.C w A0 x.f0.length x.f0) {A4 : Option Addr} {c4 : Nat} (l4 : x.f1.f3.length ≤ c4) (g4 : Kd.string.C w A4 x.f1.f3.length x.f1.f3) {A5 : Option Addr} {c5 : Nat} (l5 : x.f1.f4.length ≤ c5) (g5 : k42.C w A5 x.f1.f4.length x.f1.f4) : k44.K w x [.slice A0 x.f0.length c0, .int .i64 x.f1.f0, .string x.f1.f1, .int .i64 x.f1.f2, .slice A4 x.f1.f3.length c4, .slice A5 x.f1.f4.length c5] := ⟨[.slice A0 x.f0.length c0], [.int .i64 x.f1.f0, .string x.f1.f1, .int .i64 x.f1.f2, .slice A4 x.f1.f3.length c4, .slice A5 x.f1.f4.length c5], rfl, ⟨A0, c0, rfl, l0, g0⟩, (k42_mk w x.f1 l4 g4 l5 g5)⟩
structure S93 where
 f0 : S42
 f1 : ByteArray
def z93 : S93 := ⟨z42, (⟨#[]⟩ : ByteArray)⟩
def k93 : Kd S93 := Kd.iso (Kd.pair k42 Kd.string) (fun x : S93 => (x.f0, x.f1))
theorem k93_open {w : World} {x : S93} {cs : List Value} (h : k93.K w x cs) : ∃ A3 c3 A4 c4, cs = [.int .i64 x.f0.f0, .string x.f0.f1, .int .i64 x.f0.f2, .slice A3 x.f0.f3.length c3, .slice A4 x.f0.f4.length c4, .string x.f1] ∧ x.f0.f3.length ≤ c3 ∧ Kd.string.C w A3 x.f0.f3.length x.f0.f3 ∧ x.f0.f4.length ≤ c4 ∧ k42.C w A4 x.f0.f4.length x.f0.f4 := by
 obtain ⟨_, _, rfl, s0, rfl⟩ := h
 obtain ⟨A3, c3, A4, c4, rfl, l3, g3, l4, g4⟩ := k42_open s0
 exact ⟨A3, c3, A4, c4, rfl, l3, g3, l4, g4⟩
theorem k93_mk (w : World) (x : S93) {A3 : Option Addr} {c3 : Nat} (l3 : x.f0.f3.length ≤ c3) (g3 : Kd.string.C w A3 x.f0.f3.length x.f0.f3) {A4 : Option Addr} {c4 : Nat} (l4 : x.f0.f4.length ≤ c4) (g4 : k42.C w A4 x.f0.f4.length x.f0.f4) : k93.K w x [.int .i64 x.f0.f0, .string x.f0.f1, .int .i64 x.f0.f2, .slice A3 x.f0.f3.length c3, .slice A4 x.f0.f4.length c4, .string x.f1] := ⟨[.int .i64 x.f0.f0, .string x.f0.f1, .int .i64 x.f0.f2, .slice A3 x.f0.f3.length c3, .slice A4 x.f0.f4.length c4], [.string x.f1], rfl, (k42_mk w x.f0 l3 g3 l4 g4), rfl⟩
structure S65 where
 f0 : ByteArray
 f1 : (List S44)
 f2 : (List S93)
def z65 : S65 := ⟨(⟨#[]⟩ : ByteArray), ([] : List S44), ([] : List S93)⟩
def k65 : Kd S65 := Kd.iso (Kd.pair Kd.string (Kd.pair (Kd.slice 44 k44) (Kd.slice 93 k93))) (fun x : S65 => (x.f0, x.f1, x.f2))
theorem k65_open {w : World} {x : S65} {cs : List Value} (h : k65.K w x cs) : ∃ A1 c1 A2 c2, cs = [.string x.f0, .slice A1 x.f1.length c1, .slice A2 x.f2.length c2] ∧ x.f1.length ≤ c1 ∧ k44.C w A1 x.f1.length x.f1 ∧ x.f2.length ≤ c2 ∧ k93.C w A2 x.f2.length x.f2 := by
 obtain ⟨_, _, rfl, rfl, ⟨_, _, rfl, ⟨A1, c1, rfl, l1, g1⟩, ⟨A2, c2, rfl, l2, g2⟩⟩⟩ := h
 exact ⟨A1, c1, A2, c2, rfl, l1, g1, l2, g2⟩
theorem k65_mk (w : World) (x : S65) {A1 : Option Addr} {c1 : Nat} (l1 : x.f1.length ≤ c1) (g1 : k44.C w A1 x.f1.length x.f1) {A2 : Option Addr} {c2 : Nat} (l2 : x.f2.length ≤ c2) (g2 : k93.C w A2 x.f2.length x.f2) : k65.K w x [.string x.f0, .slice A1 x.f1.length c1, .slice A2 x.f2.length c2] := ⟨[.string x.f0], [.slice A1 x.f1.length c1, .slice A2 x.f2.length c2], rfl, rfl, ⟨[.slice A1 x.f1.length c1], [.slice A2 x.f2.length c2], rfl, ⟨A1, c1, rfl, l1, g1⟩, ⟨A2, c2, rfl, l2, g2⟩⟩⟩
def rd_T65 (xs : List S65) (i : Int) : S65 := xs.getD i.toNat z65
theorem at_T65 {w : World} {A : Option Addr} {n : Nat} {xs : List S65} (h : Kd.C k65 w A n xs) (i : Int) (h0 : 0 ≤ i) (h1 : i < n) : ∃ ad A1 c1 A2 c2, A = some ad ∧ w.cell? (ad.add (i.toNat * 3)) = some (.string (rd_T65 xs i).f0) ∧ w.cell? ⟨(ad.add (i.toNat * 3)).block, (ad.add (i.toNat * 3)).off + 1, none⟩ = some (.slice A1 (rd_T65 xs i).f1.length c1) ∧ w.cell? ⟨(ad.add (i.toNat * 3)).block, (ad.add (i.toNat * 3)).off + 2, none⟩ = some (.slice A2 (rd_T65 xs i).f2.length c2) ∧ (rd_T65 xs i).f1.length ≤ c1 ∧ k44.C w A1 (rd_T65 xs i).f1.length (rd_T65 xs i).f1 ∧ (rd_T65 xs i).f2.length ≤ c2 ∧ k93.C w A2 (rd_T65 xs i).f2.length (rd_T65 xs i).f2 := by
 obtain ⟨ad, c, e, _, hK, hc0⟩ := Kd.C_get h z65 i h0 h1
 have hc : ∀ j u, c[j]? = some u → w.cell? (ad.add (i.toNat * 3 + j)) = some u := hc0
 obtain ⟨A1, c1, A2, c2, rfl, l1, g1, l2, g2⟩ := k65_open hK
 exact ⟨ad, A1, c1, A2, c2, e, hc 0 _ rfl, by rw [← add_field _ _ 1 (by omega)]; exact hc 1 _ rfl, by rw [← add_field _ _ 2 (by omega)]; exact hc 2 _ rfl, l1, g1, l2, g2⟩
structure S47 where
 f0 : S44
 f1 : (List S65)
def z47 : S47 := ⟨z44, ([] : List S65)⟩
def k47 : Kd S47 := Kd.iso (Kd.pair k44 (Kd.slice 65 k65)) (fun x : S47 => (x.f0, x.f1))
theorem k47_open {w : World} {x : S47} {cs : List Value} (h : k47.K w x cs) : ∃ A0 c0 A4 c4 A5 c5 A6 c6, cs = [.slice A0 x.f0.f0.length c0, .int .i64 x.f0.f1.f0, .string x.f0.f1.f1, .int .i64 x.f0.f1.f2, .slice A4 x.f0.f1.f3.length c4, .slice A5 x.f0.f1.f4.length c5, .slice A6 x.f1.length c6] ∧ x.f0.f0.length ≤ c0 ∧ Kd.string.C w A0 x.f0.f0.length x.f0.f0 ∧ x.f0.f1.f3.length ≤ c4 ∧ Kd.string.C w A4 x.f0.f1.f3.length x.f0.f1.f3 ∧ x.f0.f1.f4.length ≤ c5 ∧ k42.C w A5 x.f0.f1.f4.length x.f0.f1.f4 ∧ x.f1.length ≤ c6 ∧ k65.C w A6 x.f1.length x.f1 := by
 obtain ⟨_, _, rfl, s0, ⟨A6, c6, rfl, l6, g6⟩⟩ := h
 obtain ⟨A0, c0, A4, c4, A5, c5, rfl, l0, g0, l4, g4, l5, g5⟩ := k44_open s0
 exact ⟨A0, c0, A4, c4, A5, c5, A6, c6, rfl, l0, g0, l4, g4, l5, g5, l6, g6⟩
theorem k47_mk (w : World) (x : S47) {A0 : Option Addr} {c0 : Nat} (l0 : x.f0.f0.length ≤ c0) (g0 : Kd.string.C w A0 x.f0.f0.length x.f0.f0) {A4 : Option Addr} {c4 : Nat} (l4 : x.f0.f1.f3.length ≤ c4) (g4 : Kd.string.C w A4 x.f0.f1.f3.length x.f0.f1.f3) {A5 : Option Addr} {c5 : Nat} (l5 : x.f0.f1.f4.length ≤ c5) (g5 : k42.C w A5 x.f0.f1.f4.length x.f0.f1.f4) {A6 : Option Addr} {c6 : Nat} (l6 : x.f1.length ≤ c6) (g6 : k65.C w A6 x.f1.length x.f1) : k47.K w x [.slice A0 x.f0.f0.length c0, .int .i64 x.f0.f1.f0, .string x.f0.f1.f1, .int .i64 x.f0.f1.f2, .slice A4 x.f0.f1.f3.length c4, .slice A5 x.f0.f1.f4.length c5, .slice A6 x.f1.length c6] := ⟨[.slice A0 x.f0.f0.length c0, .int .i64 x.f0.f1.f0, .string x.f0.f1.f1, .int .i64 x.f0.f1.f2, .slice A4 x.f0.f1.f3.length c4, .slice A5 x.f0.f1.f4.length c5], [.slice A6 x.f1.length c6], rfl, (k44_mk w x.f0 l0 g0 l4 g4 l5 g5), ⟨A6, c6, rfl, l6, g6⟩⟩
def rd_T47 (xs : List S47) (i : Int) : S47 := xs.getD i.toNat z47
theorem at_T47 {w : World} {A : Option Addr} {n : Nat} {xs : List S47} (h : Kd.C k47 w A n xs) (i : Int) (h0 : 0 ≤ i) (h1 : i < n) : ∃ ad A0 c0 A4 c4 A5 c5 A6 c6, A = some ad ∧ w.cell? (ad.add (i.toNat * 7)) = some (.slice A0 (rd_T47 xs i).f0.f0.length c0) ∧ w.cell? ⟨(ad.add (i.toNat * 7)).block, (ad.add (i.toNat * 7)).off + 1, none⟩ = some (.int .i64 (rd_T47 xs i).f0.f1.f0) ∧ w.cell? ⟨(ad.add (i.toNat * 7)).block, (ad.add (i.toNat * 7)).off + 2, none⟩ = some (.string (rd_T47 xs i).f0.f1.f1) ∧ w.cell? ⟨(ad.add (i.toNat * 7)).block, (ad.add (i.toNat * 7)).off + 3, none⟩ = some (.int .i64 (rd_T47 xs i).f0.f1.f2) ∧ w.cell? ⟨(ad.add (i.toNat * 7)).block, (ad.add (i.toNat * 7)).off + 4, none⟩ = some (.slice A4 (rd_T47 xs i).f0.f1.f3.length c4) ∧ w.cell? ⟨(ad.add (i.toNat * 7)).block, (ad.add (i.toNat * 7)).off + 5, none⟩ = some (.slice A5 (rd_T47 xs i).f0.f1.f4.length c5) ∧ w.cell? ⟨(ad.add (i.toNat * 7)).block, (ad.add (i.toNat * 7)).off + 6, none⟩ = some (.slice A6 (rd_T47 xs i).f1.length c6) ∧ (rd_T47 xs i).f0.f0.length ≤ c0 ∧ Kd.string.C w A0 (rd_T47 xs i).f0.f0.length (rd_T47 xs i).f0.f0 ∧ (rd_T47 xs i).f0.f1.f3.length ≤ c4 ∧ Kd.string.C w A4 (rd_T47 xs i).f0.f1.f3.length (rd_T47 xs i).f0.f1.f3 ∧ (rd_T47 xs i).f0.f1.f4.length ≤ c5 ∧ k42.C w A5 (rd_T47 xs i).f0.f1.f4.length (rd_T47 xs i).f0.f1.f4 ∧ (rd_T47 xs i).f1.length ≤ c6 ∧ k65.C w A6 (rd_T47 xs i).f1.length (rd_T47 xs i).f1 := by
 obtain ⟨ad, c, e, _, hK, hc0⟩ := Kd.C_get h z47 i h0 h1
 have hc : ∀ j u, c[j]? = some u → w.cell? (ad.add (i.toNat * 7 + j)) = some u := hc0
 obtain ⟨A0, c0, A4, c4, A5, c5, A6, c6, rfl, l0, g0, l4, g4, l5, g5, l6, g6⟩ := k47_open hK
 exact ⟨ad, A0, c0, A4, c4, A5, c5, A6, c6, e, hc 0 _ rfl, by rw [← add_field _ _ 1 (by omega)]; exact hc 1 _ rfl, by rw [← add_field _ _ 2 (by omega)]; exact hc 2 _ rfl, by rw [← add_field _ _ 3 (by omega)]; exact hc 3 _ rfl, by rw [← add_field _ _ 4 (by omega)]; exact hc 4 _ rfl, by rw [← add_field _ _ 5 (by omega)]; exact hc 5 _ rfl, by rw [← add_field _ _ 6 (by omega)]; exact hc 6 _ rfl, l0, g0, l4, g4, l5, g5, l6, g6⟩
structure S35 where
 f0 : ByteArray
 f1 : (List ByteArray)
 f2 : (List ByteArray)
 f3 : (List ByteArray)
 f4 : (List S47)
def z35 : S35 := ⟨(⟨#[]⟩ : ByteArray), ([] : List ByteArray), ([] : List ByteArray), ([] : List ByteArray), ([] : List S47)⟩
def k35 : Kd S35 := Kd.iso (Kd.pair Kd.string (Kd.pair (Kd.slice 9 Kd.string) (Kd.pair (Kd.slice 9 Kd.string) (Kd.pair (Kd.slice 9 Kd.string) (Kd.slice 47 k47))))) (fun x : S35 => (x.f0, x.f1, x.f2, x.f3, x.f4))
theorem k35_open {w : World} {x : S35} {cs : List Value} (h : k35.K w x cs) : ∃ A1 c1 A2 c2 A3 c3 A4 c4, cs = [.string x.f0, .slice A1 x.f1.length c1, .slice A2 x.f2.length c2, .slice A3 x.f3.length c3, .slice A4 x.f4.length c4] ∧ x.f1.length ≤ c1 ∧ Kd.string.C w A1 x.f1.length x.f1 ∧ x.f2.length ≤ c2 ∧ Kd.string.C w A2 x.f2.length x.f2 ∧ x.f3.length ≤ c3 ∧ Kd.string.C w A3 x.f3.length x.f3 ∧ x.f4.length ≤ c4 ∧ k47.C w A4 x.f4.length x.f4 := by
 obtain ⟨_, _, rfl, rfl, ⟨_, _, rfl, ⟨A1, c1, rfl, l1, g1⟩, ⟨_, _, rfl, ⟨A2, c2, rfl, l2, g2⟩, ⟨_, _, rfl, ⟨A3, c3, rfl, l3, g3⟩, ⟨A4, c4, rfl, l4, g4⟩⟩⟩⟩⟩ := h
 exact ⟨A1, c1, A2, c2, A3, c3, A4, c4, rfl, l1, g1, l2, g2, l3, g3, l4, g4⟩
theorem k35_mk (w : World) (x : S35) {A1 : Option Addr} {c1 : Nat} (l1 : x.f1.length ≤ c1) (g1 : Kd.string.C w A1 x.f1.length x.f1) {A2 : Option Addr} {c2 : Nat} (l2 : x.f2.length ≤ c2) (g2 : Kd.string.C w A2 x.f2.length x.f2) {A3 : Option Addr} {c3 : Nat} (l3 : x.f3.length ≤ c3) (g3 : Kd.string.C w A3 x.f3.length x.f3) {A4 : Option Addr} {c4 : Nat} (l4 : x.f4.length ≤ c4) (g4 : k47.C w A4 x.f4.length x.f4) : k35.K w x [.string x.f0, .slice A1 x.f1.length c1, .slice A2 x.f2.length c2, .slice A3 x.f3.length c3, .slice A4 x.f4.length c4] := ⟨[.string x.f0], [.slice A1 x.f1.length c1, .slice A2 x.f2.length c2, .slice A3 x.f3.length c3, .slice A4 x.f4.length c4], rfl, rfl, ⟨[.slice A1 x.f1.length c1], [.slice A2 x.f2.length c2, .slice A3 x.f3.length c3, .slice A4 x.f4.length c4], rfl, ⟨A1, c1, rfl, l1, g1⟩, ⟨[.slice A2 x.f2.length c2], [.slice A3 x.f3.length c3, .slice A4 x.f4.length c4], rfl, ⟨A2, c2, rfl, l2, g2⟩, ⟨[.slice A3 x.f3.length c3], [.slice A4 x.f4.length c4], rfl, ⟨A3, c3, rfl, l3, g3⟩, ⟨A4, c4, rfl, l4, g4⟩⟩⟩⟩⟩
def rd_T35 (xs : List S35) (i : Int) : S35 := xs.getD i.toNat z35
theorem at_T35 {w : World} {A : Option Addr} {n : Nat} {xs : List S35} (h : Kd.C k35 w A n xs) (i : Int) (h0 : 0 ≤ i) (h1 : i < n) : ∃ ad A1 c1 A2 c2 A3 c3 A4 c4, A = some ad ∧ w.cell? (ad.add (i.toNat * 5)) = some (.string (rd_T35 xs i).f0) ∧ w.cell? ⟨(ad.add (i.toNat * 5)).block, (ad.add (i.toNat * 5)).off + 1, none⟩ = some (.slice A1 (rd_T35 xs i).f1.length c1) ∧ w.cell? ⟨(ad.add (i.toNat * 5)).block, (ad.add (i.toNat * 5)).off + 2, none⟩ = some (.slice A2 (rd_T35 xs i).f2.length c2) ∧ w.cell? ⟨(ad.add (i.toNat * 5)).block, (ad.add (i.toNat * 5)).off + 3, none⟩ = some (.slice A3 (rd_T35 xs i).f3.length c3) ∧ w.cell? ⟨(ad.add (i.toNat * 5)).block, (ad.add (i.toNat * 5)).off + 4, none⟩ = some (.slice A4 (rd_T35 xs i).f4.length c4) ∧ (rd_T35 xs i).f1.length ≤ c1 ∧ Kd.string.C w A1 (rd_T35 xs i).f1.length (rd_T35 xs i).f1 ∧ (rd_T35 xs i).f2.length ≤ c2 ∧ Kd.string.C w A2 (rd_T35 xs i).f2.length (rd_T35 xs i).f2 ∧ (rd_T35 xs i).f3.length ≤ c3 ∧ Kd.string.C w A3 (rd_T35 xs i).f3.length (rd_T35 xs i).f3 ∧ (rd_T35 xs i).f4.length ≤ c4 ∧ k47.C w A4 (rd_T35 xs i).f4.length (rd_T35 xs i).f4 := by
 obtain ⟨ad, c, e, _, hK, hc0⟩ := Kd.C_get h z35 i h0 h1
 have hc : ∀ j u, c[j]? = some u → w.cell? (ad.add (i.toNat * 5 + j)) = some u := hc0
 obtain ⟨A1, c1, A2, c2, A3, c3, A4, c4, rfl, l1, g1, l2, g2, l3, g3, l4, g4⟩ := k35_open hK
 exact ⟨ad, A1, c1, A2, c2, A3, c3, A4, c4, e, hc 0 _ rfl, by rw [← add_field _ _ 1 (by omega)]; exact hc 1 _ rfl, by rw [← add_field _ _ 2 (by omega)]; exact hc 2 _ rfl, by rw [← add_field _ _ 3 (by omega)]; exact hc 3 _ rfl, by rw [← add_field _ _ 4 (by omega)]; exact hc 4 _ rfl, l1, g1, l2, g2, l3, g3, l4, g4⟩
end Go.Proofs.YtggfnbnochmkdaaGreat.PScope
