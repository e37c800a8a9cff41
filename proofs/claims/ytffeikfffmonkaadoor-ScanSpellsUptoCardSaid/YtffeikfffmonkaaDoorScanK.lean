/- Contract of package scan: Spell. -/
import Derived.Test.YtffeikfffmonkaaDoorBase
import Derived.Test.YtffeikfffmonkaaDoorShelf
import Derived.Test.YtffeikfffmonkaaDoorPScanx0
namespace Go.Proofs.YtffeikfffmonkaaDoor
open Go Go.RowKit Go.Lib Go.Proofs.YtffeikfffmonkaaDoorW.PrintWords Go.Proofs.YtffeikfffmonkaaDoorW.PrintMore PScan
set_option maxRecDepth 100000
set_option linter.unusedSimpArgs false
set_option linter.unusedVariables false

namespace PScan
def spellL (l : List S32) : List UInt8 := Lib.join ((l.map (·.f1)).map (·.data.toList)) [32]
def scan_Spell.f (l : List S32) : Option ByteArray := if l.length ≤ 2932031007402 ∧ (spellL l).length ≤ 140737488355328 then some ⟨(spellL l).toArray⟩ else none

theorem wrap_id' {i : Int} (h0 : -9223372036854775808 ≤ i) (h1 : i < 9223372036854775808) : wrap64 i = i := by unfold wrap64; omega
theorem i64_w' (n : Int) : IntKind.i64.wrap n = wrap64 n := by unfold wrap64; exact IntKind.wrap_i64 n
theorem string_cells {w : World} {base : Nat} {ok : Nat → Prop} {v : Value} {xs : List ByteArray} (h : Kd.R Kd.string 9 w base ok v xs) (h0 : 0 < xs.length) :
    ∃ g c, v = .slice (some ⟨g, 0, none⟩) xs.length c ∧ g < w.heap.size ∧ xs.length ≤ c ∧ ∀ (j : Nat) x, xs[j]? = some x → w.cell? ⟨g, 0 + j, none⟩ = some (.string x) := by
  have h' := h
  obtain ⟨_, inner, hown, hr⟩ := h'
  rcases hown.2 with ⟨_, hn⟩ | ⟨g, cap, cur, rfl, _, hheap, hcap, _, _, _⟩
  · omega
  · obtain ⟨_, _, hC⟩ := Kd.R_reads' h
    obtain ⟨ad, ha, hrow⟩ := hC.2.2 h0
    obtain rfl := Option.some.inj ha
    refine ⟨g, cap, rfl, blk_lt hheap, hcap, fun j x hj => ?_⟩
    obtain ⟨c, _, hc, hcell⟩ := hrow j x hj
    have hc' : c = [.string x] := hc
    subst hc'
    have := hcell 0 (.string x) rfl
    have e : (⟨g, 0, none⟩ : Addr).add (j * Kd.string.sz + 0) = ⟨g, 0 + j, none⟩ := by cases j <;> simp [Addr.add, Kd.string, Kd.scalar]
    rw [e] at this; exact this

set_option maxHeartbeats 4000000 in
theorem scan_Spell.calls (A0 : Option Addr) (c0 : Nat) (l0 : List S32) (r : ByteArray) (w : World) (hr0 : Kd.C k32 w A0 l0.length l0) (hc0 : l0.length ≤ c0) (h : scan_Spell.f l0 = some r) :
    Calls Tryd.prog 20 #[.slice A0 l0.length c0] w fun e w' => e = .returned (.string r) ∧ Below w.heap.size w w' := by
  unfold scan_Spell.f at h
  by_cases hh : l0.length ≤ 2932031007402 ∧ (spellL l0).length ≤ 140737488355328
  · rw [if_pos hh] at h
    obtain rfl := Option.some.inj h
    have HH := Aside0.mk hh
    have HR0 := Aside0.mk hr0
    clear hr0 hc0 h hh
    go_enter Tryd.func20, Tryd.ntmps20
    go_wp2_with fail
    go_loopg [3, 8] l0.length (fun kq v3 v8 wr => ∃ i : Nat, v8 = .int .i64 (i : Int) ∧ Aside0 (i + kq = l0.length) ∧ Aside0 (Kd.R Kd.string 9 wr w.heap.size (fun _ => True) v3 ((l0.take i).map (·.f1))) ∧ Aside0 (Below w.heap.size w wr))
    case atStart => exact ⟨0, rfl, ⟨Nat.zero_add _⟩, ⟨Kd.R_nil _ _ _ _ _⟩, ⟨Below.refl _ _⟩⟩
    case round =>
      obtain ⟨i, rfl, HI, HX, HB⟩ := hrel
      have HC := Aside0.mk (Kd.C_below HR0.out HB.out)
      cases gk with
      | zero =>
        have hI := HI.out
        obtain rfl : i = l0.length := by omega
        have d1 : decide ((l0.length : Int) < (l0.length : Int)) = false := decide_eq_false (by omega)
        have d2 : decide (l0.length < l0.length) = false := decide_eq_false (by omega)
        have hX := HX.out
        rw [List.take_length] at hX
        have hB := HB.out
        have hl := HH.out
        clear HX HI hI HH HC
        cases hl0 : l0 with
        | nil =>
          subst hl0
          obtain ⟨A, c, rfl⟩ := Kd.R_slice hX
          clear hX hl
          go_wp2_with fail
          refine (Tryd.strings_Join_none _ _ _ _).mono ?_
          rintro e w1 ⟨rfl, rfl⟩
          go_wp2_with fail
          go_ret
          exact ⟨rfl, hB⟩
        | cons z zs =>
          rw [← hl0]
          obtain ⟨g, c, rfl, hg, hcc, hcells⟩ := string_cells hX (by rw [List.length_map, hl0]; simp)
          have hjoin := Tryd.strings_Join g 0 c (l0.map fun x : S32 => x.f1) ⟨#[32]⟩ wr hcells hg (by rw [List.length_map]; omega) hcc hl.2
          rw [List.length_map] at hjoin
          have HJ := Aside0.mk hjoin
          have HB' := Aside0.mk hB
          clear hX hl hB hg hcc hcells hjoin hl0
          go_wp2_with fail
          refine HJ.out.mono ?_
          rintro e w1 ⟨rfl, hb1⟩
          have HB1 := Aside0.mk (below_step HB'.out hb1)
          clear hb1 HJ
          go_wp2_with fail
          go_ret
          refine ⟨?_, HB1.out⟩
          first | rfl | (simp [spellL]; done) | (unfold spellL; simp; done)
      | succ k1 =>
        have hI := HI.out
        have l1 : (i : Int) < (l0.length : Int) := by omega
        have l2 : (0 : Int) ≤ (i : Int) := by omega
        have d1 : decide ((i : Int) < (l0.length : Int)) = true := decide_eq_true l1
        have d2 : decide (i < l0.length) = true := decide_eq_true (by omega)
        obtain ⟨ad, e1, c0_, c1_, c2_, c3_, c4_⟩ := at_T32 HC.out (i : Int) l2 l1
        cases e1
        have hil : i < l0.length := by omega
        have hrd : (l0.take (i + 1)).map (fun x : S32 => x.f1) = (l0.take i).map (fun x : S32 => x.f1) ++ [(rd_T32 l0 (i : Int)).f1] := by
          rw [List.take_succ_eq_append_getElem hil, List.map_append]
          simp [rd_T32, hil]
        generalize rd_T32 l0 (i : Int) = z at c0_ c1_ c2_ c3_ c4_ hrd
        simp only [Int.toNat_natCast] at c0_ c1_ c2_ c3_ c4_
        have p6 := eq_true l2
        have q6 := eq_true l1
        have HZ := Aside0.mk hrd
        clear hI hrd hil
        go_upto_region 5 with (fail)
        have TB := Aside0.mk (blk_new wr (Obj.cells #[.int .i64 z.f0, .string z.f1, .int .i64 z.f2, .int .i64 z.f3, .int .i64 z.f4] 32))
        have XB := Aside0.mk (Kd.R_alloc HX.out (Obj.cells #[.int .i64 z.f0, .string z.f1, .int .i64 z.f2, .int .i64 z.f3, .int .i64 z.f4] 32))
        have BB := Aside0.mk (below_alloc HB.out (Obj.cells #[.int .i64 z.f0, .string z.f1, .int .i64 z.f2, .int .i64 z.f3, .int .i64 z.f4] 32))
        clear HX HC HB c0_ c1_ c2_ c3_ c4_ p6 q6 l1 l2
        generalize wr.alloc (Obj.cells #[.int .i64 z.f0, .string z.f1, .int .i64 z.f2, .int .i64 z.f3, .int .i64 z.f4] 32) = w1 at *
        generalize wr.heap.size = gb at *
        have ⟨⟨k0, k1', k2, k3, k4⟩, _⟩ := five_cells TB.out
        have hbsz := BB.out.size
        have w7 : wrap64 ((i : Int) + 1) = ((i + 1 : Nat) : Int) := by have := wrap_id' (i := (i : Int) + 1) (by omega) (by have := HH.out; have := HI.out; omega); rw [this]; rfl
        have w8 : IntKind.i64.wrap ((i : Int) + 1) = ((i + 1 : Nat) : Int) := (i64_w' _).trans w7
        go_wp2_with ((with_reducible refine gate_builtin (b := .append) (xs := #[.tmp 12, .tmp 15]) rfl ?_); at_builtin; refine Kd.R_append Kd.string (w0 := w) w.heap.size rfl (.tmp 12) (.tmp 15) 49 9 (.string ⟨#[]⟩) 16 rfl Tryd.underlying49 info9 rfl (by decide) (by omega) u3 ((l0.take i).map (fun x : S32 => x.f1)) z.f1 [.string z.f1] (fun _ => True) (fun _ => False) rfl rfl ?aP (fun _ hk => hk.elim) ?aF ?aO ?aB ?aS ?aL ?_; (case aP => rfl); (case aB => exact BB.out); (case aF => exact (fun _ _ => trivial)); (case aO => exact XB.out); (case aS => exact hbsz); (case aL => (have h1 := HH.out; have h2 := HI.out; rw [List.length_map, List.length_take]; omega)); intro v4 w4 ho hb hg hat; have HO := Aside0.mk ho; have HB4 := Aside0.mk hb; clear ho hb hat hg)
        go_roundg k1
        case measure => omega
        case rel => exact ⟨i + 1, by first | rfl | exact congrArg _ w7 | exact congrArg _ w8, ⟨by have := HI.out; omega⟩, ⟨by rw [HZ.out]; exact HO.out⟩, HB4⟩
  · rw [if_neg hh] at h; exact absurd h (by simp)
end PScan
end Go.Proofs.YtffeikfffmonkaaDoor
