/- Package runner: anew: a function begins anew. -/
import Derived.Test.YticndoihkfbpoaaGreatDoorYe
namespace Go.Proofs.YticndoihkfbpoaaGreatDoor
open Go Go.RowKit Go.Lib Go.Proofs.YticndoihkfbpoaaGreatDoorW.PrintWords Go.Proofs.YticndoihkfbpoaaGreatDoor.PScope
set_option maxRecDepth 100000
set_option linter.unusedSimpArgs false
set_option linter.unusedVariables false
theorem add_block {a : Addr} (h : a = ⟨a.block, 0, none⟩) (i : Nat) : (a.add i).block = a.block := by rw [add_zeroed h]
theorem MRow.turned2 {S : Nat → Prop} {w0 W : World} {a : Addr} {m : List (Int × Bool)} (h : MRow W a m) (ht : Turned S w0 W) (hs : S a.block) (i : Nat) (u v : Value) : Turned S w0 ((W.setCell (a.add i) u).setCell ⟨(a.add i).block, (a.add i).off + 1, none⟩ v) :=
 (ht.set (by rw [add_block h.1]; exact hs) u).set (p := ⟨(a.add i).block, (a.add i).off + 1, none⟩) (by show S (a.add i).block; rw [add_block h.1]; exact hs) v
theorem MRow.below2 {w0 W : World} {a : Addr} {m : List (Int × Bool)} (h : MRow W a m) (hb : Below w0.heap.size w0 W) (hg : w0.heap.size ≤ a.block) (i : Nat) (u v : Value) : Below w0.heap.size w0 ((W.setCell (a.add i) u).setCell ⟨(a.add i).block, (a.add i).off + 1, none⟩ v) :=
 (hb.setCell (by rw [add_block h.1]; exact hg) u).setCell (p := ⟨(a.add i).block, (a.add i).off + 1, none⟩) (by show w0.heap.size ≤ (a.add i).block; rw [add_block h.1]; exact hg) v
theorem MRow.far2 {W : World} {a : Addr} {m : List (Int × Bool)} (h : MRow W a m) {g : Nat} {t : TypeId} {cs : Array Value} (hb : W.heap[g]? = some (.cells cs t (0, 0))) (hne : g ≠ a.block) (i : Nat) (u v : Value) : ((W.setCell (a.add i) u).setCell ⟨(a.add i).block, (a.add i).off + 1, none⟩ v).heap[g]? = some (.cells cs t (0, 0)) :=
 blk_far (blk_far hb (p := a.add i) (by rw [add_block h.1]; exact hne) u) (p := ⟨(a.add i).block, (a.add i).off + 1, none⟩) (by show g ≠ (a.add i).block; rw [add_block h.1]; exact hne) v
theorem MRow.cell1s {w : World} {a : Addr} {m : List (Int × Bool)} (h : MRow w a m) (i : Nat) (hi : i < m.length) (u : Value) : (w.setCell (a.add (i * 2)) u).cell? ⟨(a.add (i * 2)).block, (a.add (i * 2)).off + 1, none⟩ = some (.bool (m.getD i (0, false)).2) := by
 have h1 := h.cell1 i hi
 rw [add_out h.1] at h1 ⊢
 rw [add_zeroed h.1, blk_cell (blk_put h.2 (i * 2) u rfl)]
 rw [blk_cell h.2] at h1
 rw [Array.getElem?_setIfInBounds_ne (by omega)]
 exact h1
theorem MRow.frozen1s {w : World} {a : Addr} {m : List (Int × Bool)} (h : MRow w a m) (i : Nat) (u : Value) : (w.setCell (a.add (i * 2)) u).frozen? ⟨(a.add (i * 2)).block, (a.add (i * 2)).off + 1, none⟩ = false := by
 rw [add_out h.1, add_zeroed h.1]
 simp [World.frozen?, blk_put h.2 (i * 2) u rfl]
theorem Turned.belowS {S : Nat → Prop} {w0 W w1 : World} (h : Turned S W w1) (hb : Below w0.heap.size w0 W) (hs : ∀ k, S k → w0.heap.size ≤ k) : Below w0.heap.size w0 w1 := h.below hb hb.size hs
structure RAt (w0 w : World) (g : Nat) (ma : Addr) (A : Option Addr) (c : Nat) (l : List FF) (N : Nat) (m : List (Int × Bool)) (tr : Bool) (cn : Int) : Prop where
 blk : w.heap[g]? = some (.cells #[.slice A l.length c, .slice (some ma) N N, .bool tr, .int .i64 cn] 80 (0, 0))
 mem : MRow w ma m
 len : m.length = N
 few : N ≤ 1000
 hg : w0.heap.size ≤ g
 hb : w0.heap.size ≤ ma.block
 ne : g ≠ ma.block
 below : Below w0.heap.size w0 w
def AnewSays (l : List FF) (d : Nat) (w0 : World) (g : Nat) (ma : Addr) (A : Option Addr) (c N : Nat) (tr : Bool) (cn : Int) : Prop :=
 ∀ (k base : Int) (m : List (Int × Bool)) (w : World), RAt w0 w g ma A c l N m tr cn → 0 ≤ k → k < (d : Int) → k < (l.length : Int) → 0 ≤ base → base + (l.getD k.toNat zFF).cells ≤ (N : Int) →
  Calls Tryz.prog 49 #[.pointer (some ⟨g, 0, none⟩), .int .i64 k, .int .i64 base] w fun e w' => e = .returned (.tuple #[]) ∧ RAt w0 w' g ma A c l N (anewF l d k base m) tr cn ∧ Turned (fun b => b = ma.block) w w'
set_option maxHeartbeats 8000000 in
theorem anew_calls (l : List FF) (hok : flatOk l = true) (hm : l.length ≤ 9223372036854775807) (w0 : World) (g : Nat) (ma : Addr) (A : Option Addr) (c N : Nat) (tr : Bool) (cn : Int) (hC : kFF.C w0 A l.length l) : ∀ d, AnewSays l d w0 g ma A c N tr cn := by
 intro d
 induction d with
 | zero => intro k base m w hR h0 h1; omega
 | succ d ih =>
  intro k base m w hR h0 h1 h2 h3 h4
  obtain ⟨hblk, hmem, hlen, hfew, hg, hb, hne, hbel⟩ := hR
  have HI := Aside0.mk ih
  have HC := Aside0.mk hC
  have HB := Aside0.mk hbel
  have BG := Aside0.mk hblk
  have HM := Aside0.mk hmem
  have HL := Aside0.mk hlen
  have HG := Aside0.mk hg
  have HMB := Aside0.mk hb
  have NG := Aside0.mk hne
  have HF := Aside0.mk hfew
  have HT := Aside0.mk (Turned.refl (fun b => b = ma.block) w)
  have HOK := Aside0.mk (funOk hok (k := k.toNat) (by omega))
  clear ih hC hbel hblk hmem hlen hg hb hne hok
  obtain ⟨ead, ecs, rfl, _, eK, ecc⟩ := Kd.C_get HC.out zFF k (by omega) (by omega)
  have eK' := eK
  obtain ⟨eA0, ec0, eA1, ec1, eA3, ec3, eA4, ec4, eA5, ec5, rfl, el0, eg0, el1, eg1, el3, eg3, el4, eg4, el5, eg5⟩ := kFF_open6 eK'
  have ex0 := (HB.out.cell (World.block_lt_of_cell? w0 _ (ecc 0 _ rfl))).trans (ecc 0 _ rfl)
  have ex1 := (HB.out.cell (World.block_lt_of_cell? w0 _ (ecc 1 _ rfl))).trans (ecc 1 _ rfl)
  have ex2 := (HB.out.cell (World.block_lt_of_cell? w0 _ (ecc 2 _ rfl))).trans (ecc 2 _ rfl)
  have ex3 := (HB.out.cell (World.block_lt_of_cell? w0 _ (ecc 3 _ rfl))).trans (ecc 3 _ rfl)
  have ex4 := (HB.out.cell (World.block_lt_of_cell? w0 _ (ecc 4 _ rfl))).trans (ecc 4 _ rfl)
  have ex5 := (HB.out.cell (World.block_lt_of_cell? w0 _ (ecc 5 _ rfl))).trans (ecc 5 _ rfl)
  rw [show (kFF).sz = 6 from rfl, Nat.add_zero] at ex0
  rw [show (kFF).sz = 6 from rfl, add_field _ _ 1 (by omega)] at ex1
  rw [show (kFF).sz = 6 from rfl, add_field _ _ 2 (by omega)] at ex2
  rw [show (kFF).sz = 6 from rfl, add_field _ _ 3 (by omega)] at ex3
  rw [show (kFF).sz = 6 from rfl, add_field _ _ 4 (by omega)] at ex4
  rw [show (kFF).sz = 6 from rfl, add_field _ _ 5 (by omega)] at ex5
  clear ecc
  generalize Yx0 : l.getD k.toNat zFF = x at ex0 ex1 ex2 ex3 ex4 ex5 eK el0 eg0 el1 eg1 el3 eg3 el4 eg4 el5 eg5
  have Yx := Aside0.mk Yx0; clear Yx0
  rw [Yx.out] at h4 HOK
  have eL0 := Aside0.mk el0; have eG0 := Aside0.mk eg0; clear el0 eg0
  have eL1 := Aside0.mk el1; have eG1 := Aside0.mk eg1; clear el1 eg1
  have eL3 := Aside0.mk el3; have eG3 := Aside0.mk eg3; clear el3 eg3
  have eL4 := Aside0.mk el4; have eG4 := Aside0.mk eg4; clear el4 eg4
  have eL5 := Aside0.mk el5; have eG5 := Aside0.mk eg5; clear el5 eg5
  clear eK
  have HFO := Aside0.mk (FunOk.of HOK.out)
  clear HOK
  obtain ⟨R, hRr⟩ : ∃ R, anewF l (d + 1) k base m = R := ⟨_, rfl⟩
  rw [hRr]
  have HR := Aside0.mk (show partsM (anewF l d) base x.parts (flagsM base x.flags (clearM m base.toNat x.cells.toNat)) = R by rw [← hRr, anewF, Yx.out])
  clear hRr
  have hcc0 := HFO.out.c0
  have hcc1 := HFO.out.c1
  have HX := Aside0.mk (show 0 ≤ base ∧ base + x.cells ≤ (N : Int) ∧ 0 ≤ x.cells ∧ N ≤ 1000 ∧ k.toNat < l.length ∧ k < (d : Int) + 1 ∧ 0 ≤ k from ⟨h3, h4, hcc0, HF.out, by omega, by omega, h0⟩)
  have LM := Aside0.mk HM.out.lt
  have LG := Aside0.mk (blk_lt BG.out)
  have g0 := (blk_cell BG.out 0).trans rfl
  have g1 := (blk_cell BG.out 1).trans rfl
  go_enter Tryz.func49, Tryz.ntmps49
  go_upto_region 1 with ((with_reducible refine gate_store (t := 35) (p := 6) rfl ?_); refine store_whole rfl rfl 35 _ _ rfl w.heap.size _ 35 rfl (blk_new _ _) _ rfl rfl rfl (by simp [Value.oneCell']) ?_; intro w2 hb2 hg2; replace BG := Aside0.mk (blk_as BG.out hg2); replace HM := Aside0.mk (HM.out.as hg2); replace HT := Aside0.mk (turned_as HT.out hg2); clear g0 g1; replace HB := Aside0.mk (below_as HB.out hg2); obtain ⟨ge, hq_⟩ : ∃ g_, g_ = w.heap.size := ⟨_, rfl⟩; rw [← hq_] at hb2; rw [← hq_]; have BE := Aside0.mk hb2; have NBE := Aside0.mk (show ge = w.heap.size from hq_); clear hb2 hg2 hq_; have ce_0 := (blk_cell BE.out 0).trans rfl; have ce_1 := (blk_cell BE.out 1).trans rfl; have ce_2 := (blk_cell BE.out 2).trans rfl; have ce_3 := (blk_cell BE.out 3).trans rfl; have ce_4 := (blk_cell BE.out 4).trans rfl; have ce_5 := (blk_cell BE.out 5).trans rfl; have cg_0 := (blk_cell BG.out 0).trans rfl; have cg_1 := (blk_cell BG.out 1).trans rfl; have cg_2 := (blk_cell BG.out 2).trans rfl; have cg_3 := (blk_cell BG.out 3).trans rfl)
  have NEM := Aside0.mk (show ge ≠ ma.block by have := LM.out; rw [NBE.out]; omega)
  have NEG := Aside0.mk (show ge ≠ g by have := LG.out; rw [NBE.out]; omega)
  clear NBE LM LG
  have hw1 : wrap64 (base + x.cells) = base + x.cells := by unfold wrap64; omega
  have hw2 : IntKind.i64.wrap (base + x.cells) = base + x.cells := by rw [wrapEq]; exact hw1
  have hsl := run_slice_mem ma N base (base + x.cells) h3 (by omega) h4
  have hcl := fun c ty => run_clear_mem (w := World.drew w2) (a := ma) (m := m) HM.out base.toNat (base + x.cells).toNat (by omega) (by rw [HL.out]; omega) c ty
  rw [HL.out] at hcl
  generalize midAddr ma N base.toNat = av at hsl hcl
  go_still_tail 10, (by kernel_rfl)
  change wpList _ _ _ _ _ (World.drew w2)
  go_upto_region 2 with fail
  clear ce_0 ce_1 ce_2 ce_3 ce_4 ce_5 cg_0 cg_1 cg_2 cg_3
  clear hsl hcl hw1 hw2
  skip
  have hn : (base + x.cells).toNat - base.toNat = x.cells.toNat := by omega
  have hM2 : MRow (clearW (World.drew w2) ma base.toNat ((base + x.cells).toNat - base.toNat)) ma (clearM m base.toNat x.cells.toNat) := by rw [hn]; exact MRow.clear _ (show MRow (World.drew w2) ma m from HM.out) _
  have ht1 : Turned (fun b => b = ma.block) w2 (clearW (World.drew w2) ma base.toNat ((base + x.cells).toNat - base.toNat)) := turned_setCells (S := fun b => b = ma.block) (g := ma.block) rfl _ _ (Turned.refl _ w2).drew
  replace HM := Aside0.mk hM2
  clear hM2
  replace BG := Aside0.mk (ht1.blk BG.out NG.out)
  replace BE := Aside0.mk (ht1.blk BE.out NEM.out)
  replace HB := Aside0.mk (ht1.belowS HB.out (fun k hk => hk ▸ HMB.out))
  replace HT := Aside0.mk (HT.out.trans ht1)
  clear ht1
  generalize clearW (World.drew w2) ma base.toNat ((base + x.cells).toNat - base.toNat) = w3 at HM HT HB BG BE ⊢
  have HLM := Aside0.mk (show (clearM m base.toNat x.cells.toNat).length = N by rw [clearM_len, HL.out])
  generalize clearM m base.toNat x.cells.toNat = mc at HM HLM HR
  clear HL hn hcc0 hcc1 h0 h1 h2 h3 h4
  have ce_0 := (blk_cell BE.out 0).trans rfl
  have ce_1 := (blk_cell BE.out 1).trans rfl
  have ce_2 := (blk_cell BE.out 2).trans rfl
  have ce_3 := (blk_cell BE.out 3).trans rfl
  have ce_4 := (blk_cell BE.out 4).trans rfl
  have ce_5 := (blk_cell BE.out 5).trans rfl
  go_wp2_with fail
  clear ce_0 ce_1 ce_2 ce_3 ce_4 ce_5
  have hfm : x.flags.length ≤ 9223372036854775807 := (eG3.out).2.1
  go_loopg [31] x.flags.length (fun gg s_ wr => ∃ (jj : Nat) (m1 : List (Int × Bool)), jj ≤ x.flags.length ∧ x.flags.length - jj ≤ gg ∧ s_ = .int .i64 jj ∧ Aside0 (Below w0.heap.size w0 wr) ∧ Aside0 (Turned (fun b => b = ma.block) w wr) ∧ Aside0 (MRow wr ma m1) ∧ Aside0 (wr.heap[g]? = some (.cells #[.slice (some ead) l.length c, .slice (some ma) N N, .bool tr, .int .i64 cn] 80 (0, 0))) ∧ Aside0 (wr.heap[ge]? = some (.cells #[.slice eA0 (x.params).length ec0, .slice eA1 (x.results).length ec1, .int .i64 x.cells, .slice eA3 (x.flags).length ec3, .slice eA4 (x.parts).length ec4, .slice eA5 (x.body).length ec5] 35 (0, 0))) ∧ Aside0 (m1.length = N) ∧ Aside0 (flagsM base (x.flags.drop jj) m1 = flagsM base x.flags mc))
  case atStart => exact ⟨0, mc, Nat.zero_le _, by omega, rfl, HB, HT, HM, BG, BE, HLM, ⟨rfl⟩⟩
  case round =>
   clear HB HT HM BG BE HLM
   obtain ⟨jj, m1, hjj, hgj, rfl, HB, HT, HM, BG, BE, HLM, HFL⟩ := hrel
   by_cases hltj : jj < x.flags.length
   ·have hltzj : (jj : Int) < (x.flags.length : Int) := by omega
    have HF1 := Aside0.mk (show flagsM base (x.flags.drop (jj + 1)) (m1.set (base + x.flags.getD jj (0 : Int)).toNat (1, true)) = flagsM base x.flags mc by rw [← HFL.out, drop_getD x.flags jj hltj (0 : Int), flagsM])
    have HFN := Aside0.mk (HFO.out.flags _ (getD_mem hltj (0 : Int)))
    obtain ⟨nad, ncs, rfl, _, nK, ncc⟩ := Kd.C_get eG3.out (0 : Int) (jj : Int) (by omega) (by omega)
    obtain rfl := nK
    have nx0 := (HB.out.cell (World.block_lt_of_cell? w0 _ (ncc 0 _ rfl))).trans (ncc 0 _ rfl)
    simp only [show (Kd.int .i64).sz = 1 from rfl, Nat.mul_one, Nat.add_zero, Int.toNat_natCast] at nx0
    clear ncc
    try simp only [Int.toNat_natCast] at nx0
    generalize Yn0 : x.flags.getD jj (0 : Int) = n at nx0
    have Yn := Aside0.mk Yn0; clear Yn0
    rw [Yn.out] at HF1 HFN
    have hx := HX.out
    have hn := HFN.out
    obtain ⟨v, hv⟩ : ∃ v, base + n = v := ⟨_, rfl⟩
    have hv0 : 0 ≤ v := by omega
    have hv1 : v < (N : Int) := by omega
    have hw1 : wrap64 (base + n) = v := by unfold wrap64; omega
    rw [hv] at HF1
    clear hv hx hn
    have k0 := HM.out.cell0 v.toNat (by rw [HLM.out]; omega)
    have k1 := HM.out.cell1 v.toNat (by rw [HLM.out]; omega)
    have k2 := HM.out.frozen0 (v.toNat * 2)
    have k3 := HM.out.frozen1 (v.toNat * 2) 1
    have k4 := HM.out.cell1s v.toNat (by rw [HLM.out]; omega) (.int .i64 1)
    have k5 := HM.out.frozen1s v.toNat (.int .i64 1)
    have cg_0 := (blk_cell BG.out 0).trans rfl
    have cg_1 := (blk_cell BG.out 1).trans rfl
    have cg_2 := (blk_cell BG.out 2).trans rfl
    have cg_3 := (blk_cell BG.out 3).trans rfl
    go_wp2_with fail
    clear k0 k1 k2 k3 k4 k5 cg_0 cg_1 cg_2 cg_3
    go_roundg (x.flags.length - (jj + 1))
    case measure => omega
    case rel => exact ⟨jj + 1, m1.set v.toNat (1, true), by omega, by omega, by go_num, ⟨HM.out.below2 HB.out HMB.out _ _ _⟩, ⟨HM.out.turned2 HT.out rfl _ _ _⟩, ⟨HM.out.set _ _ _⟩, ⟨HM.out.far2 BG.out NG.out _ _ _⟩, ⟨HM.out.far2 BE.out NEM.out _ _ _⟩, ⟨by rw [List.length_set]; exact HLM.out⟩, HF1⟩
   ·have hltzj : ¬ (jj : Int) < (x.flags.length : Int) := by omega
    obtain rfl : jj = x.flags.length := by omega
    have hf := HFL.out
    rw [List.drop_length, flagsM] at hf
    rw [← hf] at HR
    clear hf HFL hgj hjj hltj hfm
    have ce_0 := (blk_cell BE.out 0).trans rfl
    have ce_1 := (blk_cell BE.out 1).trans rfl
    have ce_2 := (blk_cell BE.out 2).trans rfl
    have ce_3 := (blk_cell BE.out 3).trans rfl
    have ce_4 := (blk_cell BE.out 4).trans rfl
    have ce_5 := (blk_cell BE.out 5).trans rfl
    go_wp2_with fail
    clear ce_0 ce_1 ce_2 ce_3 ce_4 ce_5
    have hpm : x.parts.length ≤ 9223372036854775807 := (eG4.out).2.1
    obtain ⟨mf, hmf⟩ : ∃ mf, m1 = mf := ⟨_, rfl⟩
    rw [hmf] at HR HM HLM
    clear hmf
    go_loopg [48] x.parts.length (fun gg s_ wr => ∃ (jj : Nat) (m1 : List (Int × Bool)), jj ≤ x.parts.length ∧ x.parts.length - jj ≤ gg ∧ s_ = .int .i64 jj ∧ Aside0 (Below w0.heap.size w0 wr) ∧ Aside0 (Turned (fun b => b = ma.block) w wr) ∧ Aside0 (MRow wr ma m1) ∧ Aside0 (wr.heap[g]? = some (.cells #[.slice (some ead) l.length c, .slice (some ma) N N, .bool tr, .int .i64 cn] 80 (0, 0))) ∧ Aside0 (wr.heap[ge]? = some (.cells #[.slice eA0 (x.params).length ec0, .slice eA1 (x.results).length ec1, .int .i64 x.cells, .slice eA3 (x.flags).length ec3, .slice eA4 (x.parts).length ec4, .slice eA5 (x.body).length ec5] 35 (0, 0))) ∧ Aside0 (m1.length = N) ∧ Aside0 (partsM (anewF l d) base (x.parts.drop jj) m1 = R))
    case atStart => exact ⟨0, mf, Nat.zero_le _, by omega, rfl, HB, HT, HM, BG, BE, HLM, HR⟩
    case round =>
     clear HB HT HM BG BE HLM
     obtain ⟨jj, m1, hjj, hgj, rfl, HB, HT, HM, BG, BE, HLM, HPA⟩ := hrel
     by_cases hltj : jj < x.parts.length
     ·have hltzj : (jj : Int) < (x.parts.length : Int) := by omega
      have HP1 := Aside0.mk (show partsM (anewF l d) base (x.parts.drop (jj + 1)) (anewF l d (x.parts.getD jj z103).f1 (base + (x.parts.getD jj z103).f0) m1) = R by rw [← HPA.out, drop_getD x.parts jj hltj z103, partsM])
      have HPN := Aside0.mk (HFO.out.parts _ (getD_mem hltj z103))
      obtain ⟨pad, pcs, rfl, _, pK, pcc⟩ := Kd.C_get eG4.out z103 (jj : Int) (by omega) (by omega)
      have pK' := pK
      obtain rfl := k103_open pK'
      have px0 := (HB.out.cell (World.block_lt_of_cell? w0 _ (pcc 0 _ rfl))).trans (pcc 0 _ rfl)
      have px1 := (HB.out.cell (World.block_lt_of_cell? w0 _ (pcc 1 _ rfl))).trans (pcc 1 _ rfl)
      rw [show (kPt).sz = 2 from rfl, Nat.add_zero, Int.toNat_natCast] at px0
      rw [show (kPt).sz = 2 from rfl, Int.toNat_natCast, add_field _ _ 1 (by omega)] at px1
      clear pcc
      try simp only [Int.toNat_natCast] at px0 px1 pK
      generalize Yq0 : x.parts.getD jj z103 = q at px0 px1 pK
      have Yq := Aside0.mk Yq0; clear Yq0
      rw [Yq.out] at HP1 HPN
      clear pK
      have hcall := fun (W : World) (hR7 : RAt w0 W g ma (some ead) c l N m1 tr cn) => HI.out q.f1 (base + q.f0) m1 W hR7 HPN.out.1 (by have := HPN.out; have := HX.out; omega) (by have := HPN.out; have := HX.out; omega) (by have := HPN.out; have := HX.out; omega) (by have := HPN.out; have := HX.out; omega)
      have hw1 : wrap64 (base + q.f0) = base + q.f0 := by have := HPN.out; have := HX.out; unfold wrap64; omega
      go_wp2_with ((with_reducible refine gate_store (t := 103) (p := 10) rfl ?_); refine store_whole rfl rfl 103 _ _ rfl wr.heap.size _ 103 rfl (blk_new _ _) _ rfl rfl rfl (by simp [Value.oneCell']) ?_; intro w2 hb2 hg2; replace BG := Aside0.mk (blk_as BG.out hg2); replace BE := Aside0.mk (blk_as BE.out hg2); replace HM := Aside0.mk (HM.out.as hg2); replace HT := Aside0.mk (turned_as HT.out hg2); replace HB := Aside0.mk (below_as HB.out hg2); obtain ⟨gp, hq_⟩ : ∃ g_, g_ = wr.heap.size := ⟨_, rfl⟩; rw [← hq_] at hb2; rw [← hq_]; have BP := Aside0.mk hb2; have NBP := Aside0.mk (show gp = wr.heap.size from hq_); clear hb2 hg2 hq_; have cp_0 := (blk_cell BP.out 0).trans rfl; have cp_1 := (blk_cell BP.out 1).trans rfl)
      refine (hcall _ ⟨BG.out, HM.out, HLM.out, HF.out, HG.out, HMB.out, NG.out, HB.out⟩).mono ?_
      rintro e w7 ⟨rfl, hR7, ht7⟩
      replace BE := Aside0.mk (ht7.blk BE.out NEM.out)
      replace BG := Aside0.mk hR7.blk
      replace HM := Aside0.mk hR7.mem
      replace HLM := Aside0.mk hR7.len
      replace HB := Aside0.mk hR7.below
      replace HT := Aside0.mk (HT.out.trans ht7)
      clear hR7 ht7 hcall cp_0 cp_1 BP
      try rw [hw1]
      clear hw1
      go_wp2_with fail
      go_roundg (x.parts.length - (jj + 1))
      case measure => omega
      case rel => exact ⟨jj + 1, _, by omega, by omega, by go_num, HB, HT, HM, BG, BE, HLM, HP1⟩
     ·have hltzj : ¬ (jj : Int) < (x.parts.length : Int) := by omega
      obtain rfl : jj = x.parts.length := by omega
      have hf := HPA.out
      rw [List.drop_length, partsM] at hf
      subst hf
      clear HPA hgj hjj hltj hpm
      go_wp2_with fail
      go_end0
      exact ⟨rfl, ⟨BG.out, HM.out, HLM.out, HF.out, HG.out, HMB.out, NG.out, HB.out⟩, HT.out⟩
end Go.Proofs.YticndoihkfbpoaaGreatDoor
