/- Contract of package scan: Scan, a text's tokens. -/
import Derived.Test.YtffeikfffmonkaaDoorScanF
import Derived.Deep.RegionHeld3
import Derived.Deep.AppendLies
namespace Go.Proofs.YtffeikfffmonkaaDoor
open Go Go.RowKit Go.Lib Go.Proofs.YtffeikfffmonkaaDoorW.PrintWords Go.Proofs.YtffeikfffmonkaaDoorW.PrintMore
set_option maxRecDepth 100000
set_option linter.unusedSimpArgs false
set_option linter.unusedVariables false

namespace PScan
def scan_Scan.l0 : Nat → ByteArray → List S32 → ByteArray → Int → Int → Int → Option (List S32 × Int × Int × Int)
  | 0, _, _, _, _, _, _ => none
  | k + 1, x, out, t, a, l, c => (scan_scanner_blanks.f k t a l c).bind fun b =>
      if b.2.1 = (x.size : Int) then (if out.length < 2932031007402 then some (out ++ [(⟨6, ⟨#[]⟩, 0, b.2.2.1, b.2.2.2⟩ : S32)], 0, 0, 0) else none)
      else (scan_scanner_token.f b.1 b.2.1 b.2.2.1 b.2.2.2).bind fun q =>
        if q.2.2.2.2.2.1 = true then (if out.length < 2932031007402 then (scan_scanner_skip.f k q.2.2.2.2.2.2.1 q.2.2.2.2.2.2.2.1 q.2.2.2.2.2.2.2.2.1 q.2.2.2.2.2.2.2.2.2 (q.2.1.size : Int)).bind fun z =>
          scan_Scan.l0 k x (out ++ [(⟨q.1, q.2.1, q.2.2.1, q.2.2.2.1, q.2.2.2.2.1⟩ : S32)]) z.1 z.2.1 z.2.2.1 z.2.2.2 else none)
        else some ([], 2, q.2.2.2.2.2.2.2.2.1, q.2.2.2.2.2.2.2.2.2)
def scan_Scan.f (k : Nat) (x : ByteArray) : Option (List S32 × Int × Int × Int) := if (x.size : Int) > 65536 then some ([], 9, 0, 0) else scan_Scan.l0 k x [] x 0 1 1

theorem scan_Scan.mono_l : ∀ k, ∀ x out t a l c, LeO (scan_Scan.l0 k x out t a l c) (scan_Scan.l0 (k + 1) x out t a l c)
  | 0 => fun _ _ _ _ _ _ r h => by simp [scan_Scan.l0] at h
  | k + 1 => by
    have ih := scan_Scan.mono_l k
    intro x out t a l c
    rw [scan_Scan.l0, scan_Scan.l0]
    refine LeO.bind (scan_scanner_blanks.mono _ _ _ _ _) (fun b => LeO.ite (LeO.refl _) (LeO.bind (LeO.refl _) (fun q => LeO.ite (LeO.ite (LeO.bind (scan_scanner_skip.mono _ _ _ _ _ _) (fun z => ?_)) (LeO.none _)) (LeO.refl _))))
    exact ih _ _ _ _ _ _
theorem scan_Scan.mono : ∀ x k, LeO (scan_Scan.f k x) (scan_Scan.f (k + 1) x) := by
  intro x k
  unfold scan_Scan.f
  exact LeO.ite (LeO.refl _) (scan_Scan.mono_l _ _ _ _ _ _ _)

theorem row_state {w0 W W1 : World} {g : Nat} {f0 : ByteArray} {f1 f2 f3 : Int} {v : Value} {xs : List S32} {base : Nat} (hI : IsS38 w0 W g f0 f1 f2 f3) (h : Kd.R k32 32 W base (fun _ => True) v xs) (hk : KeepBut W W1 g none) : Kd.R k32 32 W1 base (fun _ => True) v xs :=
  Kd.R_mono (Kd.R_keep (hI.apart h (by decide)) hk (fun _ h => h.2)) (fun _ _ => trivial)
theorem blk_keepB {W W1 : World} {g h : Nat} {o : Obj} (hh : W.heap[h]? = some o) (hk : KeepBut W W1 g none) (hne : h ≠ g) : W1.heap[h]? = some o := (hk.2 h (blk_lt hh) hne (by simp)).trans hh

set_option maxHeartbeats 4000000 in
theorem scan_Scan.calls (k : Nat) (x : ByteArray) (r1 : List S32) (r2 r3 r4 : Int) (w : World) (h : scan_Scan.f k x = some (r1, r2, r3, r4)) (hL : Laid w) :
    Calls Tryd.prog 10 #[.string x] w fun e w' => ∃ v0_ : Value, e = .returned (.tuple #[v0_, .agg #[.int .i64 r2, .int .i64 r3, .int .i64 r4]]) ∧ Kd.R k32 32 w' w.heap.size (fun _ => True) v0_ r1 ∧ Below w.heap.size w w' := by
  unfold scan_Scan.f at h
  by_cases c0 : (x.size : Int) > 65536
  · rw [if_pos c0] at h
    simp only [Option.some.injEq, Prod.mk.injEq] at h
    obtain ⟨rfl, rfl, rfl, rfl⟩ := h
    have c1 : decide (65536 < (x.size : Int)) = true := decide_eq_true c0
    have c2 : decide (65536 < x.size) = true := decide_eq_true (by omega)
    go_enter Tryd.func10, Tryd.ntmps10
    go_wp2_with fail
    refine bodyPost_ret (results_tc rfl _ _ w.heap.size 26 #[.int .i64 9, .int .i64 0, .int .i64 0] (0, 0) _ rfl (blk_new _ _) Tryd.underlying26 rfl (by kernel_rfl)) rfl ⟨_, rfl, Kd.R_nil _ _ _ _ _, below_alloc (Below.refl _ _) _⟩
  · rw [if_neg c0] at h
    have c1 : decide (65536 < (x.size : Int)) = false := decide_eq_false c0
    have c2 : decide (65536 < x.size) = false := decide_eq_false (by omega)
    have hx : x.size ≤ 65536 := by omega
    have HH := Aside0.mk h
    have HL := Aside0.mk hL
    clear h hL
    go_enter Tryd.func10, Tryd.ntmps10
    go_wp2_with fail
    go_loopg [5] k (fun kq v5 wr => ∃ (out : List S32) (t : ByteArray) (a l c : Int), Aside0 (scan_Scan.l0 kq x out t a l c = some (r1, r2, r3, r4)) ∧ Aside0 (Kd.R k32 32 wr w.heap.size (fun _ => True) v5 out) ∧ Aside0 (wr.heap[w.heap.size]? = some (.cells #[.int .i64 0, .int .i64 0, .int .i64 0] 26 (0, 0))) ∧ Aside0 (IsS38 w wr (w.heap.size + 1) t a l c) ∧ Aside0 (Below w.heap.size w wr))
    case atStart => exact ⟨[], x, 0, 1, 1, HH, ⟨Kd.R_nil _ _ _ _ _⟩, ⟨blk_alloc (blk_new _ _) _⟩, ⟨⟨by have := blk_new (w.alloc (Obj.cells #[.int .i64 0, .int .i64 0, .int .i64 0] 26)) (Obj.cells #[.string x, .int .i64 0, .int .i64 1, .int .i64 1] 38); simpa using this, by omega⟩⟩, ⟨below_alloc (below_alloc (Below.refl _ _) _) _⟩⟩
    case round =>
      clear HH c0 c1 c2
      obtain ⟨out, t, a, l, c, HA, HR, HF, HI, HB⟩ := hrel
      cases gk with
      | zero => exact absurd HA.out (by simp [scan_Scan.l0])
      | succ k1 =>
        have H := HA.out
        clear HA
        rw [scan_Scan.l0] at H
        obtain ⟨⟨t1, a1, l1, p1⟩, hb1, H1⟩ := Option.bind_eq_some_iff.mp H
        simp only at H1
        have hcall := scan_scanner_blanks.calls k1 _ t a l c t1 a1 l1 p1 w wr HI.out HB.out hb1
        have HH := Aside0.mk H1
        clear H H1 hb1
        go_wp2_with fail
        refine hcall.mono ?_
        rintro e w1 ⟨rfl, hI1, hB1, hK1⟩
        have HR1 := Aside0.mk (row_state HI.out HR.out hK1)
        have HF1 := Aside0.mk (blk_keepB HF.out hK1 (by omega))
        have HI1 := Aside0.mk hI1
        have HB1 := Aside0.mk hB1
        have hat := cellS38_1 hI1.1
        clear hI1 hB1 hK1 hcall HR HF HI HB
        by_cases e1 : a1 = (x.size : Int)
        · have d1 : (a1 == (x.size : Int)) = true := beq_iff_eq.2 e1
          have H := HH.out
          rw [if_pos e1] at H
          by_cases e2 : out.length < 2932031007402
          · rw [if_pos e2] at H
            simp only [Option.some.injEq, Prod.mk.injEq] at H
            obtain ⟨rfl, rfl, rfl, rfl⟩ := H
            have hI := HI1.out
            obtain ⟨hgz, _⟩ := hI
            have b2 := cellS38_2 hgz
            have b3 := cellS38_3 hgz
            have HGZ := Aside0.mk hgz
            have hF := HF1.out
            have g0 : w1.cell? ⟨w.heap.size, 0, none⟩ = some (.int .i64 0) := (blk_cell hF 0).trans rfl
            have g1 : w1.cell? ⟨w.heap.size, 1, none⟩ = some (.int .i64 0) := (blk_cell hF 1).trans rfl
            have g2 : w1.cell? ⟨w.heap.size, 2, none⟩ = some (.int .i64 0) := (blk_cell hF 2).trans rfl
            have q0 := blk_frozen hF 0
            have q1 := blk_frozen hF 1
            have q2 := blk_frozen hF 2
            have HF0 := Aside0.mk hF
            have lg := blk_lt hgz
            have lf := blk_lt hF
            have ne1 := Kd.R_ne HR1.out hgz (by decide)
            have ne2 := Kd.R_ne HR1.out hF (by decide)
            have hbase := Kd.R_base HR1.out
            obtain ⟨h0, inner, hown, hreps⟩ := Kd.R_drew (Kd.R_alloc HR1.out (Obj.cells #[.int .i64 6, .string ⟨#[]⟩, .int .i64 0, .int .i64 l1, .int .i64 p1] 32))
            have HBA := Aside0.mk hbase
            have H00 := Aside0.mk h0
            clear hbase h0
            obtain ⟨i0, hi0, hz0, hz1, hz2⟩ := info_parts infoTok
            have Hre := Aside0.mk hreps
            have hB := HB1.out.size
            clear HH e1 hF hgz HR1 hreps HF1
            have hown' : ((w1.alloc (Obj.cells #[.int .i64 6, .string ⟨#[]⟩, .int .i64 0, .int .i64 l1, .int .i64 p1] 32)).drew).ownsRow w.heap.size 32 5 u5 out.length inner := hown
            clear hown
            go_wp2_with fail
            go_region_held3 (fun w' => w'.cell? ⟨w.heap.size + 1, 2, none⟩ = some (.int .i64 l1) ∧ w'.cell? ⟨w.heap.size + 1, 3, none⟩ = some (.int .i64 p1))
              (first
                | go_keep
                | (go_split_ands
                   refine ⟨?_, ?_⟩
                   · (rw [hgrow.cell_far _ (by simp; omega) ne1]; assumption)
                   · (rw [hgrow.cell_far _ (by simp; omega) ne1]; assumption)))
              ((refine step_append_lies _ (by rfl) _ _ _ (by rfl) w.heap.size 32 i0 _ 5 48 Tryd.underlying23 hi0 hz0 hz1 hz2 rfl (by omega) u5 out.length inner (by rfl) hown'
                  ⟨w1.heap.size, 0, none⟩ 1 1 [.int .i64 6, .string ⟨#[]⟩, .int .i64 0, .int .i64 l1, .int .i64 p1] (by rfl) (by rfl) (World.news_of_block (cs := #[.int .i64 6, .string ⟨#[]⟩, .int .i64 0, .int .i64 l1, .int .i64 p1]) (t := 32) (fr := (0, 0)) (heap_alloc_new w1 _)) (by simp [Value.oneCell'])
                  (by omega) (by unfold maxLen; omega) (by omega) (by simp; omega) (w1.heap.size + 1) (by simp) ?_; intro gg cap w2 hown1 hgrow hat hlt
                have hF2 := blk_grown (blk_drew (blk_alloc HF0.out (Obj.cells #[.int .i64 6, .string ⟨#[]⟩, .int .i64 0, .int .i64 l1, .int .i64 p1] 32))) hgrow ne2
                have g0' : w2.cell? ⟨w.heap.size, 0, none⟩ = some (.int .i64 0) := (blk_cell hF2 0).trans rfl
                have g1' : w2.cell? ⟨w.heap.size, 1, none⟩ = some (.int .i64 0) := (blk_cell hF2 1).trans rfl
                have g2' : w2.cell? ⟨w.heap.size, 2, none⟩ = some (.int .i64 0) := (blk_cell hF2 2).trans rfl
                have q0' := blk_frozen hF2 0
                have q1' := blk_frozen hF2 1
                have q2' := blk_frozen hF2 2
                have HF2 := Aside0.mk hF2
                clear hF2))
            all_goals go_wp2_with fail
            have hs1 := blk_put (cs' := #[.int .i64 0, .int .i64 0, .int .i64 0]) HF2.out 0 (.int .i64 0) rfl
            have hs2 := blk_put (cs' := #[.int .i64 0, .int .i64 0, .int .i64 0]) hs1 1 (.int .i64 0) rfl
            have hs3 := blk_put (cs' := #[.int .i64 0, .int .i64 0, .int .i64 0]) hs2 2 (.int .i64 0) rfl
            have hR2 := Kd.R_appended (d := k32) (ok := fun _ => True) (okp := fun _ => False) (p := (⟨6, ⟨#[]⟩, 0, l1, p1⟩ : S32)) H00.out Hre.out (k32_mkM _ _ _ _) (fun _ hk => hk.elim) (fun _ _ => trivial) hown1 hgrow (by
              rcases hat with h | h
              · left; rw [h]; rfl
              · right; exact ⟨gg, rfl, by simp; omega⟩)
            refine bodyPost_ret (results_tc rfl _ _ w.heap.size 26 #[.int .i64 0, .int .i64 0, .int .i64 0] (0, 0) _ rfl hs3 Tryd.underlying26 rfl (by kernel_rfl)) rfl ⟨_, rfl, ?_, ?_⟩
            · exact Kd.R_set (Kd.R_set (Kd.R_set hR2 HF2.out (by decide) 0 _) hs1 (by decide) 1 _) hs2 (by decide) 2 _
            · refine below_set (below_set (below_set (pw_below_grown (below_drew (below_alloc HB1.out _)) _ (by simp; omega) hgrow HBA.out) (Nat.le_refl _)) (Nat.le_refl _)) (Nat.le_refl _)
          · rw [if_neg e2] at H
            exact absurd H (by simp)
        · have d1 : (a1 == (x.size : Int)) = false := beq_eq_false_iff_ne.2 e1
          have H := HH.out
          rw [if_neg e1] at H
          obtain ⟨⟨q1, q2, q3, q4, q5, q6, z1, z2, z3, z4⟩, hq, H2⟩ := Option.bind_eq_some_iff.mp H
          simp only at H2
          have htok := scan_scanner_token.calls _ t1 a1 l1 p1 q1 q2 q3 q4 q5 q6 z1 z2 z3 z4 w w1 HI1.out HB1.out hq HL.out
          have HJ := Aside0.mk H2
          clear H H2 hq HH e1
          go_wp2_with fail
          refine htok.mono ?_
          rintro e w2 ⟨rfl, hI2, hB2, hK2⟩
          have HR2 := Aside0.mk (row_state HI1.out HR1.out hK2)
          have hF2 := blk_keepB HF1.out hK2 (by omega)
          have HF2 := Aside0.mk hF2
          have HI2 := Aside0.mk hI2
          have HB2 := Aside0.mk hB2
          have hgz := hI2.1
          have lg := blk_lt hgz
          have lf := blk_lt hF2
          have hwl := hB2.size
          clear hI2 hB2 hK2 htok HR1 HF1 HI1 HB1 hat
          cases hq6 : q6 with
          | false =>
            subst hq6
            have b2 := cellS38_2 hgz
            have b3 := cellS38_3 hgz
            have g0 : w2.cell? ⟨w.heap.size, 0, none⟩ = some (.int .i64 0) := (blk_cell hF2 0).trans rfl
            have g1 : w2.cell? ⟨w.heap.size, 1, none⟩ = some (.int .i64 0) := (blk_cell hF2 1).trans rfl
            have g2 : w2.cell? ⟨w.heap.size, 2, none⟩ = some (.int .i64 0) := (blk_cell hF2 2).trans rfl
            have y0 := blk_frozen hF2 0
            have y1 := blk_frozen hF2 1
            have y2 := blk_frozen hF2 2
            have H := HJ.out
            rw [if_neg (by simp)] at H
            simp only [Option.some.injEq, Prod.mk.injEq] at H
            obtain ⟨rfl, rfl, rfl, rfl⟩ := H
            clear hgz hF2 HJ
            go_wp2_with fail
            go_region
            all_goals go_wp2_with fail
            have hs1 := blk_put (cs' := #[.int .i64 2, .int .i64 0, .int .i64 0]) HF2.out 0 (.int .i64 2) rfl
            have hs2 := blk_put (cs' := #[.int .i64 2, .int .i64 z3, .int .i64 0]) hs1 1 (.int .i64 z3) rfl
            have hs3 := blk_put (cs' := #[.int .i64 2, .int .i64 z3, .int .i64 z4]) hs2 2 (.int .i64 z4) rfl
            refine bodyPost_ret (results_tc rfl _ _ w.heap.size 26 #[.int .i64 2, .int .i64 z3, .int .i64 z4] (0, 0) _ rfl (by (with_reducible repeat (first | refine blk_drewN ?_ _ | refine blk_drew ?_ | refine blk_alloc ?_ _)); exact hs3) Tryd.underlying26 rfl (by kernel_rfl)) rfl ⟨_, rfl, Kd.R_nil _ _ _ _ _, ?_⟩
            repeat (first | (with_reducible first | apply below_alloc | apply pw_below_drewN | apply below_drew) | exact below_set (below_set (below_set HB2.out (Nat.le_refl _)) (Nat.le_refl _)) (Nat.le_refl _))
          | true =>
            subst hq6
            have H := HJ.out
            rw [if_pos rfl] at H
            by_cases e2 : out.length < 2932031007402
            · rw [if_pos e2] at H
              obtain ⟨⟨t3, a3, l3, p3⟩, hsk, H3⟩ := Option.bind_eq_some_iff.mp H
              simp only at H3
              have HN := Aside0.mk H3
              have hne := Kd.R_ne HR2.out hF2 (by decide)
              have hne2 := Kd.R_ne HR2.out hgz (by decide)
              have HSK := Aside0.mk hsk
              have HE := Aside0.mk e2
              clear H H3 hsk HJ hgz hF2 e2
              have hlt5 := Kd.R_lt HR2.out
              have H5 := Aside0.mk (show some w2.heap.size ≠ u5.ownBlock from fun he => by have := hlt5 _ he.symm; omega)
              clear hlt5
              have TB := Aside0.mk (blk_new w2 (Obj.cells #[.int .i64 q1, .string q2, .int .i64 q3, .int .i64 q4, .int .i64 q5] 32))
              have RB := Aside0.mk (Kd.R_alloc HR2.out (Obj.cells #[.int .i64 q1, .string q2, .int .i64 q3, .int .i64 q4, .int .i64 q5] 32))
              have IB := Aside0.mk (HI2.out.alloc (Obj.cells #[.int .i64 q1, .string q2, .int .i64 q3, .int .i64 q4, .int .i64 q5] 32))
              have FB := Aside0.mk (blk_alloc HF2.out (Obj.cells #[.int .i64 q1, .string q2, .int .i64 q3, .int .i64 q4, .int .i64 q5] 32))
              have BB := Aside0.mk (below_alloc HB2.out (Obj.cells #[.int .i64 q1, .string q2, .int .i64 q3, .int .i64 q4, .int .i64 q5] 32))
              clear HR2 HI2 HF2 HB2
              go_upto_region 11 with (fail)
              generalize w2.alloc (Obj.cells #[.int .i64 q1, .string q2, .int .i64 q3, .int .i64 q4, .int .i64 q5] 32) = w2b at *
              have ⟨⟨k0, k1', k2, k3, k4⟩, _⟩ := five_cells TB.out
              have hbsz := BB.out.size
              go_wp2_with ((with_reducible refine gate_builtin (b := .append) (xs := #[.tmp 53, .tmp 55]) rfl ?_); at_builtin; refine Kd.R_append k32 (w0 := w) w.heap.size rfl (.tmp 53) (.tmp 55) 23 32 (.agg #[(.int .i64 0), (.string ⟨#[]⟩), (.int .i64 0), (.int .i64 0), (.int .i64 0)]) 48 rfl Tryd.underlying23 infoTok rfl (by decide) (by omega) u5 out (⟨q1, q2, q3, q4, q5⟩ : S32) [.int .i64 q1, .string q2, .int .i64 q3, .int .i64 q4, .int .i64 q5] (fun _ => True) (fun _ => False) rfl rfl ?aP (fun _ hk => hk.elim) ?aF ?aO ?aB ?aS ?aL ?_; (case aP => exact k32_mkM _ _ _ (⟨q1, q2, q3, q4, q5⟩ : S32)); (case aB => exact BB.out); (case aF => exact (fun _ _ => trivial)); (case aO => exact RB.out); (case aS => exact hbsz); (case aL => (have := HE.out; omega)); intro v3 w3 ho hb hg hat; have HO := Aside0.mk ho; have HB3 := Aside0.mk hb; have HG := Aside0.mk hg; have hT := blk_grown TB.out hg H5.out; have hT1 : w3.cell? ⟨w2.heap.size, 1, none⟩ = some (.string q2) := (blk_cell hT 1).trans rfl; clear ho hb hg hat hT)
              have hI3 : IsS38 w w3 (w.heap.size + 1) z1 z2 z3 z4 := (IB.out.grown HG.out hne2)
              have hF3 := blk_grown FB.out HG.out hne
              have hskip := scan_scanner_skip.calls k1 _ z1 z2 z3 z4 (q2.size : Int) t3 a3 l3 p3 w w3 hI3 HB3.out HSK.out
              refine hskip.mono ?_
              rintro e w4 ⟨rfl, hI4, hB4, hK4⟩
              have HR4 := Aside0.mk (row_state hI3 HO.out hK4)
              have HF4 := Aside0.mk (blk_keepB hF3 hK4 (by omega))
              have HI4 := Aside0.mk hI4
              have HB4 := Aside0.mk hB4
              clear hI4 hB4 hK4 hskip hI3 hF3 HO HB3 HG hne hne2 hT1 lg lf k0 k1' k2 k3 k4
              go_wp2_with fail
              go_roundg k1
              case measure => omega
              case rel => exact ⟨_, t3, a3, l3, p3, HN, HR4, HF4, HI4, HB4⟩
            · rw [if_neg e2] at H
              exact absurd H (by simp)
end PScan
end Go.Proofs.YtffeikfffmonkaaDoor
