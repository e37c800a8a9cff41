/- Package runner: do: statements, one by one. -/
import Derived.Test.YticndoihkfbpoaaGreatDoorXf
namespace Go.Proofs.YticndoihkfbpoaaGreatDoor
open Go Go.RowKit Go.Lib Go.Proofs.YticndoihkfbpoaaGreatDoorW.PrintWords Go.Proofs.YticndoihkfbpoaaGreatDoor.PScope
set_option maxRecDepth 100000
set_option linter.unusedSimpArgs false
set_option linter.unusedVariables false
attribute [local irreducible] wpStill
def thenL (I : Inst) (l : List FF) (N : Nat) (base : Int) (r : List FS) : List Cl × Int × Option Vars → List Cl × Int × Option Vars
 | (m1, cn1, some f1) => doL I l N base r f1 m1 cn1
 | (m1, cn1, none) => (m1, cn1, none)
theorem doL_cons (I : Inst) (l : List FF) (N : Nat) (base : Int) (s : FS) (r : List FS) (f : Vars) (m : List Cl) (cn : Int) : doL I l N base (s :: r) f m cn = thenL I l N base r (doS I l N base s f m (wrap64 (cn + 1))) := by
 rw [doL]
 unfold thenL
 split <;> split <;> simp_all
theorem keepX_yes {N : Nat} {base pos v : Int} {f : Vars} {m : List Cl} {cn : Int} (h : 0 ≤ pos ∧ pos < (N : Int) - base) : keepX N base pos (some (v, true)) f m cn = (m.set (base + pos).toNat (v, true), cn, some f) := if_pos ⟨rfl, h⟩
theorem keepX_no {N : Nat} {base pos v : Int} {f : Vars} {m : List Cl} {cn : Int} (h : ¬ (0 ≤ pos ∧ pos < (N : Int) - base)) : keepX N base pos (some (v, true)) f m cn = (m, cn, none) := if_neg (fun hh => h hh.2)
section
variable {w0 w w' : World} {g : Nat} {ma : Addr} {A : Option Addr} {c : Nat} {l : List FF} {N : Nat} {m : List Cl} {tr : Bool} {cn : Int} {gf : Nat} {base : Int} {mp : Nat} {f : Vars}
theorem FAt.count (h : FAt w0 w g ma A c l N m tr cn gf base mp f) (v : Int) : FAt w0 (w.setCell ⟨g, 3, none⟩ (.int .i64 v)) g ma A c l N m tr v gf base mp f := by
 obtain ⟨n1, n2, n3, n4, n5⟩ := h.ne_gf
 refine ⟨⟨blk_put h.run.blk 3 (.int .i64 v) rfl, ⟨h.run.mem.1, blk_far h.run.mem.2 (p := ⟨g, 3, none⟩) (fun e => h.run.ne e.symm) _⟩, h.run.len, h.run.few, h.run.hg, h.run.hb, h.run.ne, below_set h.run.below h.run.hg⟩, blk_far h.frm (p := ⟨g, 3, none⟩) n1 _, h.vars.kept (Below.heap_setCell w ⟨g, 3, none⟩ (.int .i64 v) mp n3), h.b0, h.b1, h.hf, h.hm⟩
theorem FAt.keep (h : FAt w0 w g ma A c l N m tr cn gf base mp f) (i : Nat) (hi : i < m.length) (c0 : Cl) : FAt w0 ((w.setCell (ma.add (i * 2)) (.int .i64 c0.1)).setCell ⟨(ma.add (i * 2)).block, (ma.add (i * 2)).off + 1, none⟩ (.bool c0.2)) g ma A c l N (m.set i c0) tr cn gf base mp f := by
 obtain ⟨n1, n2, n3, n4, n5⟩ := h.ne_gf
 have hs := h.run.mem.set i c0.1 c0.2
 have ha : ma.add (i * 2) = ⟨ma.block, i * 2, none⟩ := add_zeroed h.run.mem.1 _
 rw [ha] at hs ⊢
 refine ⟨⟨blk_far (blk_far h.run.blk (p := ⟨ma.block, i * 2, none⟩) h.run.ne _) (p := ⟨ma.block, i * 2 + 1, none⟩) h.run.ne _, hs, by simp [h.run.len], h.run.few, h.run.hg, h.run.hb, h.run.ne, below_set (below_set h.run.below h.run.hb) h.run.hb⟩, blk_far (blk_far h.frm (p := ⟨ma.block, i * 2, none⟩) n2 _) (p := ⟨ma.block, i * 2 + 1, none⟩) n2 _, (h.vars.kept (Below.heap_setCell w ⟨ma.block, i * 2, none⟩ (.int .i64 c0.1) mp n4)).kept (Below.heap_setCell _ ⟨ma.block, i * 2 + 1, none⟩ (.bool c0.2) mp n4), h.b0, h.b1, h.hf, h.hm⟩
end
set_option maxHeartbeats 8000000 in
theorem do_calls (w0 : World) (g : Nat) (ma : Addr) (A : Option Addr) (c : Nat) (l : List FF) (N : Nat) (tr : Bool) (gf : Nat) (base : Int) (mp : Nat) (I : Inst) (d : Nat) (hI : StepSays w0 g ma A c l N tr gf base mp I d) (hok : flatOk l = true) (hmx : l.length ≤ 9223372036854775807) (hC : kFF.C w0 A l.length l) (hd : (d : Int) ≤ (l.length : Int)) : ∀ (xs : List FS), Small xs → DoSays w0 g ma A c l N tr gf base mp I d xs := by
 intro xs hl
 induction hl with
 | mk xs h1 h2 h3 ih =>
  intro hb f m cn w B cB hF hX
  have hmax : xs.length ≤ 9223372036854775807 := hX.2.1
  have HI := Aside0.mk hI
  have IH := Aside0.mk ih
  have HOK := Aside0.mk hok
  have HMX := Aside0.mk hmx
  have HC := Aside0.mk hC
  have HD := Aside0.mk hd
  have HBD := Aside0.mk hb
  have HX := Aside0.mk hX
  have HF := Aside0.mk hF
  have HSU := Aside0.mk h3
  have HT := Aside0.mk (Turned.refl (fun b => b = g ∨ b = ma.block ∨ b = mp) w)
  obtain ⟨R, hR⟩ : ∃ R, doL I l N base xs f m cn = R := ⟨_, rfl⟩
  rw [hR]
  have HS := Aside0.mk hR
  clear h1 h2 h3 ih hI hok hmx hC hd hb hX hF hR
  go_enter Tryz.func71, Tryz.ntmps71
  go_wp2_with fail
  go_loopg [11] xs.length (fun gg s11 wr => ∃ (kk : Nat) (f1 : Vars) (m1 : List Cl) (cn1 : Int), kk ≤ xs.length ∧ xs.length - kk ≤ gg ∧ s11 = .int .i64 kk ∧ Aside0 (FAt w0 wr g ma A c l N m1 tr cn1 gf base mp f1) ∧ Aside0 (Turned (fun b => b = g ∨ b = ma.block ∨ b = mp) w wr) ∧ Aside0 (doL I l N base (xs.drop kk) f1 m1 cn1 = R))
  case atStart => exact ⟨0, f, m, cn, Nat.zero_le _, by omega, rfl, HF, HT, HS⟩
  case round =>
   clear HF HT HS
   obtain ⟨kk, f1, m1, cn1, hkk, hgk, rfl, HF, HT, HS⟩ := hrel
   by_cases hlt : kk < xs.length
   ·have hltz : (kk : Int) < (xs.length : Int) := by omega
    have HM := Aside0.mk (getD_mem hlt zFS)
    have HS1 := Aside0.mk (show thenL I l N base (xs.drop (kk + 1)) (doS I l N base (xs.getD kk zFS) f1 m1 (wrap64 (cn1 + 1))) = R by rw [← HS.out, drop_getD xs kk hlt zFS, doL_cons])
    clear HS
    obtain ⟨sad, scs, rfl, _, sK, scc⟩ := Kd.C_get HX.out zFS (kk : Int) (by omega) (by omega)
    have sK' := sK
    obtain ⟨sA4, sc4, sA8, sc8, sA9, sc9, sA6, sc6, sA7, sc7, rfl, sl4, sg4, sl8, sg8, sl9, sg9, sl6, sg6, sl7, sg7⟩ := kFS_openV sK'
    have sx0 := (HF.out.run.below.cell (World.block_lt_of_cell? w0 _ (scc 0 _ rfl))).trans (scc 0 _ rfl)
    have sx1 := (HF.out.run.below.cell (World.block_lt_of_cell? w0 _ (scc 1 _ rfl))).trans (scc 1 _ rfl)
    have sx2 := (HF.out.run.below.cell (World.block_lt_of_cell? w0 _ (scc 2 _ rfl))).trans (scc 2 _ rfl)
    have sx3 := (HF.out.run.below.cell (World.block_lt_of_cell? w0 _ (scc 3 _ rfl))).trans (scc 3 _ rfl)
    have sx4 := (HF.out.run.below.cell (World.block_lt_of_cell? w0 _ (scc 4 _ rfl))).trans (scc 4 _ rfl)
    have sx5 := (HF.out.run.below.cell (World.block_lt_of_cell? w0 _ (scc 5 _ rfl))).trans (scc 5 _ rfl)
    have sx6 := (HF.out.run.below.cell (World.block_lt_of_cell? w0 _ (scc 6 _ rfl))).trans (scc 6 _ rfl)
    have sx7 := (HF.out.run.below.cell (World.block_lt_of_cell? w0 _ (scc 7 _ rfl))).trans (scc 7 _ rfl)
    have sx8 := (HF.out.run.below.cell (World.block_lt_of_cell? w0 _ (scc 8 _ rfl))).trans (scc 8 _ rfl)
    have sx9 := (HF.out.run.below.cell (World.block_lt_of_cell? w0 _ (scc 9 _ rfl))).trans (scc 9 _ rfl)
    have sx10 := (HF.out.run.below.cell (World.block_lt_of_cell? w0 _ (scc 10 _ rfl))).trans (scc 10 _ rfl)
    have sx11 := (HF.out.run.below.cell (World.block_lt_of_cell? w0 _ (scc 11 _ rfl))).trans (scc 11 _ rfl)
    rw [show (kFS).sz = 12 from rfl, Nat.add_zero, Int.toNat_natCast] at sx0
    rw [show (kFS).sz = 12 from rfl, Int.toNat_natCast, add_field _ _ 1 (by omega)] at sx1
    rw [show (kFS).sz = 12 from rfl, Int.toNat_natCast, add_field _ _ 2 (by omega)] at sx2
    rw [show (kFS).sz = 12 from rfl, Int.toNat_natCast, add_field _ _ 3 (by omega)] at sx3
    rw [show (kFS).sz = 12 from rfl, Int.toNat_natCast, add_field _ _ 4 (by omega)] at sx4
    rw [show (kFS).sz = 12 from rfl, Int.toNat_natCast, add_field _ _ 5 (by omega)] at sx5
    rw [show (kFS).sz = 12 from rfl, Int.toNat_natCast, add_field _ _ 6 (by omega)] at sx6
    rw [show (kFS).sz = 12 from rfl, Int.toNat_natCast, add_field _ _ 7 (by omega)] at sx7
    rw [show (kFS).sz = 12 from rfl, Int.toNat_natCast, add_field _ _ 8 (by omega)] at sx8
    rw [show (kFS).sz = 12 from rfl, Int.toNat_natCast, add_field _ _ 9 (by omega)] at sx9
    rw [show (kFS).sz = 12 from rfl, Int.toNat_natCast, add_field _ _ 10 (by omega)] at sx10
    rw [show (kFS).sz = 12 from rfl, Int.toNat_natCast, add_field _ _ 11 (by omega)] at sx11
    clear scc
    try simp only [Int.toNat_natCast] at sx0 sx1 sx2 sx3 sx4 sx5 sx6 sx7 sx8 sx9 sx10 sx11 sK sl4 sg4 sl8 sg8 sl9 sg9 sl6 sg6 sl7 sg7
    generalize Ys0 : xs.getD kk zFS = s at sx0 sx1 sx2 sx3 sx4 sx5 sx6 sx7 sx8 sx9 sx10 sx11 sK sl4 sg4 sl8 sg8 sl9 sg9 sl6 sg6 sl7 sg7
    have Ys := Aside0.mk Ys0; clear Ys0
    rw [Ys.out] at HS1 HM
    have sL4 := Aside0.mk sl4; have sG4 := Aside0.mk sg4; clear sl4 sg4
    have sL8 := Aside0.mk sl8; have sG8 := Aside0.mk sg8; clear sl8 sg8
    have sL9 := Aside0.mk sl9; have sG9 := Aside0.mk sg9; clear sl9 sg9
    have sL6 := Aside0.mk sl6; have sG6 := Aside0.mk sg6; clear sl6 sg6
    have sL7 := Aside0.mk sl7; have sG7 := Aside0.mk sg7; clear sl7 sg7
    have HBS := Aside0.mk (badL_mem HBD.out HM.out)
    have HSB := Aside0.mk (HSU.out s HM.out)
    have HIS := Aside0.mk (IH.out s HM.out)
    have SK := Aside0.mk sK
    clear sK
    have x0 := (blk_cell HF.out.frm 0).trans rfl
    have y3 := (blk_cell HF.out.run.blk 3).trans rfl
    have y3f := blk_frozen HF.out.run.blk 3
    go_upto_region 4 with ((with_reducible refine gate_store (t := 41) (p := 5) rfl ?_); refine store_whole rfl rfl 41 _ _ rfl wr.heap.size _ 41 rfl (blk_new _ _) _ rfl rfl rfl (by simp [Value.oneCell']) ?_; intro w2 hb2 hg2; have HBA := Aside0.mk (below_as (Below.refl wr.heap.size wr) hg2); have LBE := Aside0.mk (show w0.heap.size ≤ wr.heap.size from HF.out.run.below.size); have MBE := Aside0.mk (show w.heap.size ≤ wr.heap.size from HT.out.size); have NBE := Aside0.mk (show wr.heap.size ≠ g ∧ wr.heap.size ≠ gf from ⟨fun e => by have := blk_lt HF.out.run.blk; omega, fun e => by have := blk_lt HF.out.frm; omega⟩); replace HF := Aside0.mk (HF.out.below' HBA.out); replace HT := Aside0.mk (turned_as HT.out hg2); clear x0 y3 y3f sx0 sx1 sx2 sx3 sx4 sx5 sx6 sx7 sx8 sx9 sx10 sx11; obtain ⟨ge, hq_⟩ : ∃ g_, g_ = wr.heap.size := ⟨_, rfl⟩; rw [← hq_] at hb2 LBE MBE NBE; rw [← hq_]; have BE := Aside0.mk hb2; clear hb2 hg2 hq_ HBA; have x0 := (blk_cell HF.out.frm 0).trans rfl; have y3 := (blk_cell HF.out.run.blk 3).trans rfl; have y3f := blk_frozen HF.out.run.blk 3)
    replace HF := Aside0.mk (HF.out.count (wrap64 (cn1 + 1)))
    replace BE := Aside0.mk (blk_far (p := ⟨g, 3, none⟩) BE.out NBE.out.1 (.int .i64 (wrap64 (cn1 + 1))))
    replace HT := Aside0.mk (HT.out.set (p := ⟨g, 3, none⟩) (.inl rfl) (.int .i64 (wrap64 (cn1 + 1))))
    clear x0 y3 y3f
    generalize w2.setCell ⟨g, 3, none⟩ (.int .i64 (wrap64 (cn1 + 1))) = w3 at HF BE HT ⊢
    generalize wrap64 (cn1 + 1) = cn2 at HF HS1 ⊢
    have ce_0 := (blk_cell BE.out 0).trans rfl
    by_cases e1 : s.op = 1
    ·have o1 : (s.op == (1 : Int)) = true := by rw [e1]; rfl
     have E1 := Aside0.mk e1; clear e1
     have HV := Aside0.mk (value_calls (w0 := w0) (g := g) (ma := ma) (A := A) (c := c) (l := l) (N := N) (m := m1) (tr := tr) (cn := cn2) (gf := gf) (base := base) (mp := mp) (f := f1) s.e)
     have HKE := Aside0.mk (k38_mk w0 s.e sL8.out sG8.out sL9.out sG9.out)
     have HE := Aside0.mk (fun (cv : Cl) (hv : valE m1 base f1 s.e = some cv) => show doL I l N base (xs.drop (kk + 1)) (mupd f1 s.name cv) m1 cn2 = R by rw [← HS1.out, doS_eq, if_pos E1.out, hv]; rfl)
     have HN := Aside0.mk (fun (hv : valE m1 base f1 s.e = none) => show R = (m1, cn2, none) by rw [← HS1.out, doS_eq, if_pos E1.out, hv]; rfl)
     clear HS1
     have ce_0 := (blk_cell BE.out 0).trans rfl
     have ce_1 := (blk_cell BE.out 1).trans rfl
     have ce_2 := (blk_cell BE.out 2).trans rfl
     have ce_3 := (blk_cell BE.out 3).trans rfl
     have ce_4 := (blk_cell BE.out 4).trans rfl
     have ce_5 := (blk_cell BE.out 5).trans rfl
     have ce_6 := (blk_cell BE.out 6).trans rfl
     have ce_7 := (blk_cell BE.out 7).trans rfl
     have ce_8 := (blk_cell BE.out 8).trans rfl
     have ce_9 := (blk_cell BE.out 9).trans rfl
     have ce_10 := (blk_cell BE.out 10).trans rfl
     have ce_11 := (blk_cell BE.out 11).trans rfl
     have x2 := (blk_cell HF.out.frm 2).trans rfl
     go_wp2_with fail
     go_region_with (go_at_call 107; refine (HV.out _ _ (HF.out.below' (below_drew1 (Below.refl _ _))) HKE.out).mono ?_; intro e w5 hp; unfold ValPost at hp; rcases hv : valE m1 base f1 s.e with _ | cv; (focus (rw [hv] at hp; have HR := Aside0.mk (HN.out hv); obtain ⟨rfl, hb⟩ := hp; clear hv; (focus (have HF5 := Aside0.mk ((HF.out.below' (below_drew1 (Below.refl _ _))).below' hb); have HT5 := Aside0.mk (HT.out.drew.step hb); clear hb; go_wp2_with fail; exact ⟨rfl, doPost_trap HR.out HF5.out.run HT5.out⟩)))); rw [hv] at hp; have HR := Aside0.mk (HE.out cv hv); obtain ⟨rfl, hb⟩ := hp; clear hv; unfold encC; have HF5 := Aside0.mk ((HF.out.below' (below_drew1 (Below.refl _ _))).below' hb); have HT5 := Aside0.mk (HT.out.drew.step hb); have BE5 := Aside0.mk (below_blk (blk_drew BE.out) hb); clear hb; obtain ⟨w6, hmu, hs6, hg6⟩ := StrMap.store (P := Tryz.prog) HF5.out.vars (t := 124) (k := 9) (e := 91) Tryz.underlying124 Tryz.underlying9 s.name (.agg #[.int .i64 cv.1, .bool cv.2]); have HS6 := Aside0.mk hs6; have HG6 := Aside0.mk hg6; clear hs6 hg6; have x2' := (blk_cell HF5.out.frm 2).trans rfl; have e1' := (blk_cell BE5.out 1).trans rfl; have e5' := (blk_cell BE5.out 5).trans rfl)
     all_goals
      clear HF HT BE
      have HF := Aside0.mk (HF5.out.stored (show StrMap w6 mp (menc encC (mupd f1 s.name cv)) from (menc_mupd encC f1 s.name cv) ▸ HS6.out) HG6.out)
      have HT := Aside0.mk (HT5.out.trans (Turned.of_grown (S := (fun b => b = g ∨ b = ma.block ∨ b = mp)) HG6.out (by rintro k ⟨⟩; exact .inr (.inr rfl))))
      go_wp2_with fail
      go_roundg (xs.length - (kk + 1))
      case measure => omega
      case rel => exact ⟨kk + 1, mupd f1 s.name cv, m1, cn2, by omega, by omega, by go_num, HF, HT, HR⟩
    ·have n1 := e1; clear e1
     by_cases e2 : s.op = 2
     ·have o1 : (s.op == (1 : Int)) = false := beq_eq_false_iff_ne.2 n1
      have o2 : (s.op == (2 : Int)) = true := by rw [e2]; rfl
      have E2 := Aside0.mk e2; clear e2
      have HV := Aside0.mk (value_calls (w0 := w0) (g := g) (ma := ma) (A := A) (c := c) (l := l) (N := N) (m := m1) (tr := tr) (cn := cn2) (gf := gf) (base := base) (mp := mp) (f := f1) s.e)
      have HKE := Aside0.mk (k38_mk w0 s.e sL8.out sG8.out sL9.out sG9.out)
      have ce_0 := (blk_cell BE.out 0).trans rfl
      have ce_1 := (blk_cell BE.out 1).trans rfl
      have ce_2 := (blk_cell BE.out 2).trans rfl
      have ce_3 := (blk_cell BE.out 3).trans rfl
      have ce_4 := (blk_cell BE.out 4).trans rfl
      have ce_5 := (blk_cell BE.out 5).trans rfl
      have ce_6 := (blk_cell BE.out 6).trans rfl
      have ce_7 := (blk_cell BE.out 7).trans rfl
      have ce_8 := (blk_cell BE.out 8).trans rfl
      have ce_9 := (blk_cell BE.out 9).trans rfl
      have ce_10 := (blk_cell BE.out 10).trans rfl
      have ce_11 := (blk_cell BE.out 11).trans rfl
      rcases hv : valE m1 base f1 s.e with _ | ⟨v, on⟩
      ·have HR := Aside0.mk (show R = (m1, cn2, none) by rw [← HS1.out, doS_eq, if_neg n1, if_pos E2.out, hv]; rfl)
       have HW := Aside0.mk (fun (W : World) (hW : FAt w0 W g ma A c l N m1 tr cn2 gf base mp f1) => vs_none HV.out hv _ HKE.out W hW)
       clear HS1 hv HV HKE
       go_wp2_with fail
       refine (HW.out _ HF.out).mono ?_
       rintro e w5 ⟨rfl, hb⟩
       replace HF := Aside0.mk (HF.out.below' hb)
       replace HT := Aside0.mk (HT.out.step hb)
       clear hb
       go_wp2_with fail
       exact ⟨rfl, doPost_trap HR.out HF.out.run HT.out⟩
      ·have HR0 := Aside0.mk (show thenL I l N base (xs.drop (kk + 1)) (keepX N base s.pos (some (v, on)) f1 m1 cn2) = R by rw [← HS1.out, doS_eq, if_neg n1, if_pos E2.out, hv])
       have HW := Aside0.mk (fun (W : World) (hW : FAt w0 W g ma A c l N m1 tr cn2 gf base mp f1) => vs_some HV.out hv _ HKE.out W hW)
       clear HS1 hv HV HKE
       go_wp2_with fail
       refine (HW.out _ HF.out).mono ?_
       rintro e w5 ⟨rfl, hb⟩
       replace BE := Aside0.mk (below_blk BE.out hb)
       replace HF := Aside0.mk (HF.out.below' hb)
       replace HT := Aside0.mk (HT.out.step hb)
       clear hb HW
       clear ce_0 ce_1 ce_2 ce_3 ce_4 ce_5 ce_6 ce_7 ce_8 ce_9 ce_10 ce_11
       cases on with
       | false =>
        have HR := Aside0.mk (show R = (m1, cn2, none) by rw [← HR0.out]; rfl)
        clear HR0
        go_wp2_with ((with_reducible refine gate_store (t := 91) (p := 6) rfl ?_); refine store_whole rfl rfl 91 _ _ rfl w5.heap.size _ 91 rfl (blk_new _ _) _ rfl rfl rfl (by simp [Value.oneCell']) ?_; intro w2 hb2 hg2; have HBA := Aside0.mk (below_as (Below.refl w5.heap.size w5) hg2); have LBC := Aside0.mk (show w0.heap.size ≤ w5.heap.size from HF.out.run.below.size); have MBC := Aside0.mk (show w.heap.size ≤ w5.heap.size from HT.out.size); have NBC := Aside0.mk (show w5.heap.size ≠ g ∧ w5.heap.size ≠ gf from ⟨fun e => by have := blk_lt HF.out.run.blk; omega, fun e => by have := blk_lt HF.out.frm; omega⟩); replace HF := Aside0.mk (HF.out.below' HBA.out); replace HT := Aside0.mk (turned_as HT.out hg2); replace BE := Aside0.mk (blk_as BE.out hg2); obtain ⟨gc, hq_⟩ : ∃ g_, g_ = w5.heap.size := ⟨_, rfl⟩; rw [← hq_] at hb2 LBC MBC NBC; rw [← hq_]; have BC := Aside0.mk hb2; clear hb2 hg2 hq_ HBA; have cc_1 := (blk_cell BC.out 1).trans rfl)
        clear cc_1
        refine (must_f _).mono ?_
        rintro e w9 ⟨rfl, rfl⟩
        go_wp2_with fail
        exact ⟨rfl, doPost_trap HR.out HF.out.run HT.out⟩
       | true =>
        go_wp2_with ((with_reducible refine gate_store (t := 91) (p := 6) rfl ?_); refine store_whole rfl rfl 91 _ _ rfl w5.heap.size _ 91 rfl (blk_new _ _) _ rfl rfl rfl (by simp [Value.oneCell']) ?_; intro w2 hb2 hg2; have HBA := Aside0.mk (below_as (Below.refl w5.heap.size w5) hg2); have LBC := Aside0.mk (show w0.heap.size ≤ w5.heap.size from HF.out.run.below.size); have MBC := Aside0.mk (show w.heap.size ≤ w5.heap.size from HT.out.size); have NBC := Aside0.mk (show w5.heap.size ≠ g ∧ w5.heap.size ≠ gf from ⟨fun e => by have := blk_lt HF.out.run.blk; omega, fun e => by have := blk_lt HF.out.frm; omega⟩); replace HF := Aside0.mk (HF.out.below' HBA.out); replace HT := Aside0.mk (turned_as HT.out hg2); replace BE := Aside0.mk (blk_as BE.out hg2); obtain ⟨gc, hq_⟩ : ∃ g_, g_ = w5.heap.size := ⟨_, rfl⟩; rw [← hq_] at hb2 LBC MBC NBC; rw [← hq_]; have BC := Aside0.mk hb2; clear hb2 hg2 hq_ HBA; have cc_1 := (blk_cell BC.out 1).trans rfl)
        clear cc_1
        refine (must_t _).mono ?_
        rintro e w7 ⟨rfl, rfl⟩
        have ce_2 := (blk_cell BE.out 2).trans rfl
        have cc_0 := (blk_cell BC.out 0).trans rfl
        have cc_1 := (blk_cell BC.out 1).trans rfl
        have HE := Aside0.mk (fun (hp : 0 ≤ s.pos ∧ s.pos < (N : Int) - base) => show doL I l N base (xs.drop (kk + 1)) f1 (m1.set (base + s.pos).toNat (v, true)) cn2 = R by rw [← HR0.out]; rw [keepX_yes hp]; rfl)
        have HN := Aside0.mk (fun (hp : ¬ (0 ≤ s.pos ∧ s.pos < (N : Int) - base)) => show R = (m1, cn2, none) by rw [← HR0.out]; rw [keepX_no hp]; rfl)
        have HA := Aside0.mk (fun (W : World) (hW : FAt w0 W g ma A c l N m1 tr cn2 gf base mp f1) => at_calls hW s.pos)
        have HLN := Aside0.mk HF.out.run.len
        have HBB := Aside0.mk HF.out.b0
        clear HR0
        go_wp2_with fail
        go_region_with (go_at_call 108; refine (HA.out _ (HF.out.below' (below_drew1 (Below.refl _ _)))).mono ?_; intro e w8 hp; unfold AtPost at hp; rw [HLN.out] at hp; rcases Classical.em (0 ≤ s.pos ∧ s.pos < (N : Int) - base) with hc | hc; rotate_left; (focus (rw [if_neg hc] at hp; have HR := Aside0.mk (HN.out hc); obtain ⟨rfl, hb⟩ := hp; clear hc; (focus (have HF5 := Aside0.mk ((HF.out.below' (below_drew1 (Below.refl _ _))).below' hb); have HT5 := Aside0.mk (HT.out.drew.step hb); clear hb; go_wp2_with fail; exact ⟨rfl, doPost_trap HR.out HF5.out.run HT5.out⟩)))); rw [if_pos hc] at hp; have HR := Aside0.mk (HE.out hc); obtain ⟨rfl, hb⟩ := hp; have HV := Aside0.mk (show (base + s.pos).toNat < m1.length by rw [HLN.out]; have := HBB.out; omega); clear hc; generalize (base + s.pos).toNat = v1 at HR HV ⊢; have HF8 := Aside0.mk ((HF.out.below' (below_drew1 (Below.refl _ _))).below' hb); have HT8 := Aside0.mk (HT.out.drew.step hb); have BC8 := Aside0.mk (below_blk (blk_drew BC.out) hb); clear hb; have cc_0' := (blk_cell BC8.out 0).trans rfl; have cc_1' := (blk_cell BC8.out 1).trans rfl; have k0 := HF8.out.run.mem.cell0 v1 HV.out; have k1 := HF8.out.run.mem.cell1 v1 HV.out; have k2 := HF8.out.run.mem.frozen0 (v1 * 2); have k3 := HF8.out.run.mem.frozen1 (v1 * 2) 1; have k4 := HF8.out.run.mem.cell1s v1 HV.out (.int .i64 v); have k5 := HF8.out.run.mem.frozen1s v1 (.int .i64 v))
        all_goals
         clear HF HT BE
         have HF := Aside0.mk (HF8.out.keep v1 HV.out (v, true))
         have HT := Aside0.mk (HF8.out.run.mem.turned2 HT8.out (.inr (.inl rfl)) (v1 * 2) (.int .i64 v) (.bool true))
         go_wp2_with fail
         go_roundg (xs.length - (kk + 1))
         case measure => omega
         case rel => exact ⟨kk + 1, f1, m1.set v1 (v, true), cn2, by omega, by omega, by go_num, HF, HT, HR⟩
     ·have n2 := e2; clear e2
      by_cases e3 : s.op = 3
      ·have o1 : (s.op == (1 : Int)) = false := beq_eq_false_iff_ne.2 n1
       have o2 : (s.op == (2 : Int)) = false := beq_eq_false_iff_ne.2 n2
       have o3 : (s.op == (3 : Int)) = true := by rw [e3]; rfl
       have E3 := Aside0.mk e3; clear e3
       have HS2 := Aside0.mk (show thenL I l N base (xs.drop (kk + 1)) (stepX I l N base s.pos s.fn s.names s.args f1 m1 cn2) = R by rw [← HS1.out, doS_eq, if_neg n1, if_neg n2, if_pos E3.out])
       replace HS1 := HS2
       clear HS2
       have HCL := Aside0.mk (fun (W : World) (hW : FAt w0 W g ma A c l N m1 tr cn2 gf base mp f1) => HI.out s _ f1 m1 cn2 W E3.out HBS.out SK.out hW)
       have ce_0 := (blk_cell BE.out 0).trans rfl
       have ce_1 := (blk_cell BE.out 1).trans rfl
       have ce_2 := (blk_cell BE.out 2).trans rfl
       have ce_3 := (blk_cell BE.out 3).trans rfl
       have ce_4 := (blk_cell BE.out 4).trans rfl
       have ce_5 := (blk_cell BE.out 5).trans rfl
       have ce_6 := (blk_cell BE.out 6).trans rfl
       have ce_7 := (blk_cell BE.out 7).trans rfl
       have ce_8 := (blk_cell BE.out 8).trans rfl
       have ce_9 := (blk_cell BE.out 9).trans rfl
       have ce_10 := (blk_cell BE.out 10).trans rfl
       have ce_11 := (blk_cell BE.out 11).trans rfl
       generalize stepX I l N base s.pos s.fn s.names s.args f1 m1 cn2 = r at HS1 HCL
       go_wp2_with fail
       clear ce_0 ce_1 ce_2 ce_3 ce_4 ce_5 ce_6 ce_7 ce_8 ce_9 ce_10 ce_11
       refine (HCL.out _ HF.out).mono ?_
       intro e w9 hp
       unfold DoPost at hp
       rcases hr : r with ⟨m2, cn3, _ | f2⟩
       ·rw [hr] at hp
        obtain ⟨⟨rfl, hR9⟩, ht9⟩ := hp
        have HR := Aside0.mk (show R = (m2, cn3, none) by rw [← HS1.out, hr]; rfl)
        have HR9 := Aside0.mk hR9
        have HT9 := Aside0.mk (HT.out.trans ht9)
        clear hr hR9 ht9 HS1 HF HT
        go_wp2_with fail
        exact ⟨rfl, doPost_trap HR.out HR9.out HT9.out⟩
       ·rw [hr] at hp
        obtain ⟨⟨rfl, hF9⟩, ht9⟩ := hp
        have HR := Aside0.mk (show doL I l N base (xs.drop (kk + 1)) f2 m2 cn3 = R by rw [← HS1.out, hr]; rfl)
        replace HF := Aside0.mk hF9
        replace HT := Aside0.mk (HT.out.trans ht9)
        clear hr hF9 ht9 HS1
        go_wp2_with fail
        go_roundg (xs.length - (kk + 1))
        case measure => omega
        case rel => exact ⟨kk + 1, f2, m2, cn3, by omega, by omega, by go_num, HF, HT, HR⟩
      ·have n3 := e3; clear e3
       by_cases e4 : s.op = 4
       ·have o1 : (s.op == (1 : Int)) = false := beq_eq_false_iff_ne.2 n1
        have o2 : (s.op == (2 : Int)) = false := beq_eq_false_iff_ne.2 n2
        have o3 : (s.op == (3 : Int)) = false := beq_eq_false_iff_ne.2 n3
        have o4 : (s.op == (4 : Int)) = true := by rw [e4]; rfl
        have E4 := Aside0.mk e4; clear e4
        have HS2 := Aside0.mk (show thenL I l N base (xs.drop (kk + 1)) (resetX l N base s.pos s.fn f1 m1 cn2) = R by rw [← HS1.out, doS_eq, if_neg n1, if_neg n2, if_neg n3, if_pos E4.out])
        replace HS1 := HS2
        clear HS2
        have HCL := Aside0.mk (fun (W : World) (hW : FAt w0 W g ma A c l N m1 tr cn2 gf base mp f1) => reset_calls HOK.out HMX.out HC.out s E4.out d HD.out HBS.out _ SK.out hW)
        have ce_0 := (blk_cell BE.out 0).trans rfl
        have ce_1 := (blk_cell BE.out 1).trans rfl
        have ce_2 := (blk_cell BE.out 2).trans rfl
        have ce_3 := (blk_cell BE.out 3).trans rfl
        have ce_4 := (blk_cell BE.out 4).trans rfl
        have ce_5 := (blk_cell BE.out 5).trans rfl
        have ce_6 := (blk_cell BE.out 6).trans rfl
        have ce_7 := (blk_cell BE.out 7).trans rfl
        have ce_8 := (blk_cell BE.out 8).trans rfl
        have ce_9 := (blk_cell BE.out 9).trans rfl
        have ce_10 := (blk_cell BE.out 10).trans rfl
        have ce_11 := (blk_cell BE.out 11).trans rfl
        generalize resetX l N base s.pos s.fn f1 m1 cn2 = r at HS1 HCL
        go_wp2_with fail
        clear ce_0 ce_1 ce_2 ce_3 ce_4 ce_5 ce_6 ce_7 ce_8 ce_9 ce_10 ce_11
        refine (HCL.out _ HF.out).mono ?_
        intro e w9 hp
        unfold DoPost at hp
        rcases hr : r with ⟨m2, cn3, _ | f2⟩
        ·rw [hr] at hp
         obtain ⟨⟨rfl, hR9⟩, ht9⟩ := hp
         have HR := Aside0.mk (show R = (m2, cn3, none) by rw [← HS1.out, hr]; rfl)
         have HR9 := Aside0.mk hR9
         have HT9 := Aside0.mk (HT.out.trans ht9)
         clear hr hR9 ht9 HS1 HF HT
         go_wp2_with fail
         exact ⟨rfl, doPost_trap HR.out HR9.out HT9.out⟩
        ·rw [hr] at hp
         obtain ⟨⟨rfl, hF9⟩, ht9⟩ := hp
         have HR := Aside0.mk (show doL I l N base (xs.drop (kk + 1)) f2 m2 cn3 = R by rw [← HS1.out, hr]; rfl)
         replace HF := Aside0.mk hF9
         replace HT := Aside0.mk (HT.out.trans ht9)
         clear hr hF9 ht9 HS1
         go_wp2_with fail
         go_roundg (xs.length - (kk + 1))
         case measure => omega
         case rel => exact ⟨kk + 1, f2, m2, cn3, by omega, by omega, by go_num, HF, HT, HR⟩
       ·have n4 := e4; clear e4
        by_cases e5 : s.op = 5
        ·have o1 : (s.op == (1 : Int)) = false := beq_eq_false_iff_ne.2 n1
         have o2 : (s.op == (2 : Int)) = false := beq_eq_false_iff_ne.2 n2
         have o3 : (s.op == (3 : Int)) = false := beq_eq_false_iff_ne.2 n3
         have o4 : (s.op == (4 : Int)) = false := beq_eq_false_iff_ne.2 n4
         have o5 : (s.op == (5 : Int)) = true := by rw [e5]; rfl
         have E5 := Aside0.mk e5; clear e5
         have ce_0 := (blk_cell BE.out 0).trans rfl
         have ce_1 := (blk_cell BE.out 1).trans rfl
         have ce_2 := (blk_cell BE.out 2).trans rfl
         have ce_3 := (blk_cell BE.out 3).trans rfl
         have ce_4 := (blk_cell BE.out 4).trans rfl
         have ce_5 := (blk_cell BE.out 5).trans rfl
         have ce_6 := (blk_cell BE.out 6).trans rfl
         have ce_7 := (blk_cell BE.out 7).trans rfl
         have ce_8 := (blk_cell BE.out 8).trans rfl
         have ce_9 := (blk_cell BE.out 9).trans rfl
         have ce_10 := (blk_cell BE.out 10).trans rfl
         have ce_11 := (blk_cell BE.out 11).trans rfl
         have x2 := (blk_cell HF.out.frm 2).trans rfl
         obtain ⟨cv, hv⟩ : ∃ cv, vget f1 s.name = cv := ⟨_, rfl⟩
         obtain ⟨v, on⟩ := cv
         have hlk : (Instr.lookup 124 (.map (some mp)) (.string s.name) false).run Tryz.prog (World.drew w3) = _ := (show StrMap (World.drew w3) mp (menc encC f1) from HF.out.vars).look Tryz.underlying124 Tryz.underlying9 (zero_cell _) s.name false
         simp only [Bool.false_eq_true, if_false, getD_encC] at hlk
         rw [hv] at hlk
         simp only [] at hlk
         have HS2 := Aside0.mk (show thenL I l N base (xs.drop (kk + 1)) (if on = true then doA I l N base v s.arms f1 m1 cn2 else (m1, cn2, none)) = R by rw [← HS1.out, doS_eq, if_neg n1, if_neg n2, if_neg n3, if_neg n4, if_pos E5.out, hv])
         replace HS1 := HS2
         clear HS2
         have hlk2 : (Instr.lookup 124 (.map (some mp)) (.string s.name) false).run Tryz.prog (World.drew (w3.alloc (.cells #[.int .i64 0, .bool false] 91))) = _ := (show StrMap (World.drew (w3.alloc (.cells #[.int .i64 0, .bool false] 91))) mp (menc encC f1) from HF.out.vars.below (below_drew1 (below_alloc (Below.refl _ _) _))).look Tryz.underlying124 Tryz.underlying9 (zero_cell _) s.name false
         simp only [Bool.false_eq_true, if_false, getD_encC] at hlk2
         rw [hv] at hlk2
         simp only [] at hlk2
         clear hv
         have x2a := fun (ob : Obj) => (blk_cell (blk_alloc HF.out.frm ob) 2).trans rfl
         have e1a := fun (ob : Obj) => (blk_cell (blk_alloc BE.out ob) 1).trans rfl
         go_wp2_with fail
         go_cut [7] from 67 to 73 (fun s7 wx => ∃ gc, s7 = .pointer (some ⟨gc, 0, none⟩) ∧ Aside0 (FAt w0 wx g ma A c l N m1 tr cn2 gf base mp f1) ∧ Aside0 (Turned (fun b => b = g ∨ b = ma.block ∨ b = mp) w wx) ∧ Aside0 (wx.heap[ge]? = some (.cells #[.int .i64 s.op, .string s.name, .int .i64 s.pos, .int .i64 s.fn, .slice sA4 (s.names).length sc4, .int .i64 s.e.f0, .string s.e.f1, .int .i64 s.e.f2, .slice sA8 (s.e.f3).length sc8, .slice sA9 (s.e.f4).length sc9, .slice sA6 (s.args).length sc6, .slice sA7 (s.arms).length sc7] 41 (0, 0))) ∧ Aside0 (wx.heap[gc]? = some (.cells #[.int .i64 v, .bool on] 91 (0, 0))))
         case first =>
          have HBA := below_drew1 (below_alloc (Below.refl w3.heap.size w3) (.cells #[.int .i64 v, .bool on] 91))
          have HF4 := Aside0.mk (HF.out.below' HBA)
          have HT4 := Aside0.mk (HT.out.step HBA)
          have BE4 := Aside0.mk (below_blk BE.out HBA)
          have BC4 := Aside0.mk (blk_drew (blk_new w3 (.cells #[.int .i64 v, .bool on] 91)))
          clear HBA HF HT BE
          go_region
          all_goals
           go_wp2_with fail
           go_meet
           case rel => exact ⟨_, rfl, HF4, HT4, BE4, BC4⟩
         case rest =>
         clear HF HT BE
         obtain ⟨gc, rfl, HF, HT, BE, BC⟩ := hcut
         clear hlk hlk2 x2 x2a e1a ce_0 ce_1 ce_2 ce_3 ce_4 ce_5 ce_6 ce_7 ce_8 ce_9 ce_10 ce_11
         have cc_1 := (blk_cell BC.out 1).trans rfl
         cases on with
         | false =>
          have HR := Aside0.mk (show R = (m1, cn2, none) by rw [← HS1.out]; rfl)
          clear HS1
          go_wp2_with fail
          clear cc_1
          refine (must_f _).mono ?_
          rintro e w9 ⟨rfl, rfl⟩
          go_wp2_with fail
          exact ⟨rfl, doPost_trap HR.out HF.out.run HT.out⟩
         | true =>
          replace HS1 := Aside0.mk (show thenL I l N base (xs.drop (kk + 1)) (doA I l N base v s.arms f1 m1 cn2) = R from HS1.out)
          go_wp2_with fail
          clear cc_1
          refine (must_t _).mono ?_
          rintro e w7 ⟨rfl, rfl⟩
          have ce_11 := (blk_cell BE.out 11).trans rfl
          have hmf := run_mkfn
          go_wp2_with fail
          clear hmf
          refine (arm_calls sG7.out HF.out.run.below BC.out).mono ?_
          clear ce_11
          rintro e w8 ⟨hb, (⟨rfl, hn⟩ | ⟨i, hi, rfl, hj, ht⟩)⟩
          ·have HR := Aside0.mk (show doL I l N base (xs.drop (kk + 1)) f1 m1 cn2 = R by rw [← HS1.out, doA_none I l N base v f1 m1 cn2 s.arms hn]; rfl)
           replace HF := Aside0.mk (HF.out.below' hb)
           replace HT := Aside0.mk (HT.out.step hb)
           clear hb hn HS1
           go_wp2_with fail
           go_roundg (xs.length - (kk + 1))
           case measure => omega
           case rel => exact ⟨kk + 1, f1, m1, cn2, by omega, by omega, by go_num, HF, HT, HR⟩
          ·have HMA := Aside0.mk (getD_mem hi zFA)
           have HS2 := Aside0.mk (show thenL I l N base (xs.drop (kk + 1)) (doL I l N base (s.arms.getD i zFA).2 f1 m1 cn2) = R by rw [← HS1.out, doA_some I l N base v f1 m1 cn2 s.arms i hi hj ht])
           replace HS1 := HS2
           replace BE := Aside0.mk (below_blk BE.out hb)
           replace HF := Aside0.mk (HF.out.below' hb)
           replace HT := Aside0.mk (HT.out.step hb)
           clear HS2 hb hj ht
           obtain ⟨aad, acs, rfl, _, aK, acc⟩ := Kd.C_get sG7.out zFA (i : Int) (by omega) (by omega)
           have aK' := aK
           obtain ⟨aA1, ac1, rfl, al1, ag1⟩ := kFA_open aK'
           have ax0 := (HF.out.run.below.cell (World.block_lt_of_cell? w0 _ (acc 0 _ rfl))).trans (acc 0 _ rfl)
           have ax1 := (HF.out.run.below.cell (World.block_lt_of_cell? w0 _ (acc 1 _ rfl))).trans (acc 1 _ rfl)
           rw [show (kFA).sz = 2 from rfl, Nat.add_zero, Int.toNat_natCast] at ax0
           rw [show (kFA).sz = 2 from rfl, Int.toNat_natCast, add_field _ _ 1 (by omega)] at ax1
           clear acc
           try simp only [Int.toNat_natCast] at ax0 ax1 aK al1 ag1
           generalize Ya0 : s.arms.getD i zFA = a at ax0 ax1 aK al1 ag1
           have Ya := Aside0.mk Ya0; clear Ya0
           rw [Ya.out] at HS1 HMA
           have aL1 := Aside0.mk al1; have aG1 := Aside0.mk ag1; clear al1 ag1 aK
           have HCL := Aside0.mk (fun (W : World) (hW : FAt w0 W g ma A c l N m1 tr cn2 gf base mp f1) => HIS.out a HMA.out (badS_arm HBS.out HMA.out) f1 m1 cn2 W aA1 ac1 hW aG1.out)
           generalize doL I l N base a.2 f1 m1 cn2 = r at HS1 HCL
           have ce_11 := (blk_cell BE.out 11).trans rfl
           have di : decide ((i : Int) ≥ 0) = true := decide_eq_true (by omega)
           have dj : (i : Int) < (s.arms.length : Int) := by omega
           go_wp2_with fail
           clear ce_11 ax0 ax1 di dj
           refine (HCL.out _ HF.out).mono ?_
           intro e w9 hp
           unfold DoPost at hp
           rcases hr : r with ⟨m2, cn3, _ | f2⟩
           ·rw [hr] at hp
            obtain ⟨⟨rfl, hR9⟩, ht9⟩ := hp
            have HR := Aside0.mk (show R = (m2, cn3, none) by rw [← HS1.out, hr]; rfl)
            have HR9 := Aside0.mk hR9
            have HT9 := Aside0.mk (HT.out.trans ht9)
            clear hr hR9 ht9 HS1 HF HT
            go_wp2_with fail
            exact ⟨rfl, doPost_trap HR.out HR9.out HT9.out⟩
           ·rw [hr] at hp
            obtain ⟨⟨rfl, hF9⟩, ht9⟩ := hp
            have HR := Aside0.mk (show doL I l N base (xs.drop (kk + 1)) f2 m2 cn3 = R by rw [← HS1.out, hr]; rfl)
            replace HF := Aside0.mk hF9
            replace HT := Aside0.mk (HT.out.trans ht9)
            clear hr hF9 ht9 HS1
            go_wp2_with fail
            go_roundg (xs.length - (kk + 1))
            case measure => omega
            case rel => exact ⟨kk + 1, f2, m2, cn3, by omega, by omega, by go_num, HF, HT, HR⟩
        ·have n5 := e5; clear e5
         have o1 : (s.op == (1 : Int)) = false := beq_eq_false_iff_ne.2 n1
         have o2 : (s.op == (2 : Int)) = false := beq_eq_false_iff_ne.2 n2
         have o3 : (s.op == (3 : Int)) = false := beq_eq_false_iff_ne.2 n3
         have o4 : (s.op == (4 : Int)) = false := beq_eq_false_iff_ne.2 n4
         have o5 : (s.op == (5 : Int)) = false := beq_eq_false_iff_ne.2 n5
         have HR := Aside0.mk (show R = (m1, cn2, none) by rw [← HS1.out, doS_eq, if_neg n1, if_neg n2, if_neg n3, if_neg n4, if_neg n5]; rfl)
         clear HS1
         go_wp2_with fail
         refine (must_f _).mono ?_
         rintro e w9 ⟨rfl, rfl⟩
         go_wp2_with fail
         exact ⟨rfl, doPost_trap HR.out HF.out.run HT.out⟩
   ·have hltz : ¬ (kk : Int) < (xs.length : Int) := by omega
    obtain rfl : kk = xs.length := by omega
    have HR := Aside0.mk (show R = (m1, cn1, some f1) by have h := HS.out; rw [List.drop_length, doL] at h; exact h.symm)
    clear HS
    go_wp2_with fail
    go_end0
    exact doPost_done HR.out HF.out HT.out
end Go.Proofs.YticndoihkfbpoaaGreatDoor
