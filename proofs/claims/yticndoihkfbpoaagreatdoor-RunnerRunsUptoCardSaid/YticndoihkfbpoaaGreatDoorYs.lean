/- The reference's runner: instant: a function's instant. -/
import Derived.Test.YticndoihkfbpoaaGreatDoorYr
import Derived.Test.YticndoihkfbpoaaGreatDoorYp
namespace Go.Proofs.YticndoihkfbpoaaGreatDoor
open Go Go.RowKit Go.Lib Go.Proofs.YticndoihkfbpoaaGreatDoorW.PrintWords Go.Proofs.YticndoihkfbpoaaGreatDoor.PScope
set_option maxRecDepth 100000
set_option linter.unusedSimpArgs false
set_option linter.unusedVariables false
attribute [local irreducible] wpStill
structure FlatIn (l : List FF) : Prop where
 ins : ∀ f ∈ l, FsIn f.body
 names : ∀ f ∈ l, f.params.length + nmL f.body ≤ 4398046511104
theorem fatR_mk {w0 W : World} {g : Nat} {ma : Addr} {A : Option Addr} {c : Nat} {l : List FF} {N : Nat} {m : List Cl} {tr : Bool} {cn : Int} {gf : Nat} {b : Int} (h : RAtR w0 W g ma A c l N m tr cn) (hm : MemIn m) (hf : W.heap[gf]? = some (.cells #[.pointer (some ⟨g, 0, none⟩), .int .i64 b, .slice none 0 0, .bool false] 132 (0, 0))) (h0 : 0 ≤ b) (h1 : b ≤ (N : Int)) (hw : w0.heap.size ≤ gf) (hg : g < gf) (ha : ma.block < gf) :
  FAtR w0 W g ma A c l N m tr cn gf b (gf + 1) 0 (fun _ => none) false :=
 ⟨h, ⟨.slice none 0 0, [], hf, Kd.R_nil kSl 172 W (gf + 1) (fun _ => True), SameVars.none, Nat.le_refl 0⟩, h0, h1, hw, ⟨by omega, by omega, by omega⟩, ⟨by omega, by omega⟩, hm, VarsIn.none, blk_lt hf⟩
theorem rin_no {w0 w w' : World} {g : Nat} {ma : Addr} {A : Option Addr} {c : Nat} {l : List FF} {N : Nat} {tr : Bool} {R : List Cl × Int × Option (List Int)} {m1 : List Cl} {cn1 : Int} (hR : R = (m1, cn1, none)) (hr : RAtR w0 w' g ma A c l N m1 tr cn1) (hm : MemIn m1) (ht : Turned (fun b => b = g ∨ b = ma.block) w w') : RInPost w0 g ma A c l N tr R w (.returned (.tuple #[.slice none 0 0, .bool false])) w' := by
 subst hR
 exact ⟨rfl, hr, hm, ht⟩
theorem rin_yes {w0 w w' : World} {g : Nat} {ma : Addr} {A : Option Addr} {c : Nat} {l : List FF} {N : Nat} {tr : Bool} {R : List Cl × Int × Option (List Int)} {m1 : List Cl} {cn1 : Int} {xs : List Int} {B : Option Addr} {cB : Nat} (hR : R = (m1, cn1, some xs)) (hr : RAtR w0 w' g ma A c l N m1 tr cn1) (hm : MemIn m1) (ht : Turned (fun b => b = g ∨ b = ma.block) w w') (hC : (Kd.int .i64).C w' B xs.length xs) (hf : ∀ ad, B = some ad → w.heap.size ≤ ad.block ∧ ¬ IsSl w' ad.block) (hi : ∀ x ∈ xs, InR x) : RInPost w0 g ma A c l N tr R w (.returned (.tuple #[.slice B xs.length cB, .bool true])) w' := by
 subst hR
 exact ⟨⟨B, cB, rfl, hC, hf, hi⟩, hr, hm, ht⟩
set_option maxHeartbeats 8000000 in
theorem rinstant_step (w0 : World) (g : Nat) (ma : Addr) (A : Option Addr) (c : Nat) (l : List FF) (N : Nat) (tr : Bool) (I : Inst) (d : Nat) (hI : RISays w0 g ma A c l N tr d I)
  (hIL : ∀ (k fb : Int) (ins : List Int) (m : List Cl) (cn : Int) (xs : List Int), (I k fb ins m cn).2.2 = some xs → xs.length = (l.getD k.toNat zFF).results.length) (hok : flatOk l = true) (hsm : FlatSmall l) (hfi : FlatIn l) (hC : kFF.C w0 A l.length l) (hfw : ∀ f ∈ l, f.params.length ≤ 8796093022208) (hfr : ∀ f ∈ l, f.results.length ≤ 8796093022208) (hd : (d : Int) < (l.length : Int)) : RISays w0 g ma A c l N tr (d + 1) (instX I l N) := by
 intro fn ab ins m cn w B cB h0 h1 hlen hR hmi hii hV
 have hfo := FunOk.of (funOk hok (k := fn.toNat) (by omega))
 obtain ⟨fb, hfb⟩ : ∃ fb, adjV N ab = fb := ⟨_, rfl⟩
 have HFB := Aside0.mk (show 0 ≤ fb ∧ fb ≤ (N : Int) from hfb ▸ adj_in N ab)
 rw [hfb]
 have HAJ := Aside0.mk hfb
 clear hfb
 have hI' : RISays w0 g ma A c l N tr fn.toNat I := fun fn' fb' ins' m' cn' w' B' cB' a0 a1 => hI fn' fb' ins' m' cn' w' B' cB' a0 (by omega)
 have hbody := getD_mem (show fn.toNat < l.length by omega) zFF
 have HDO := Aside0.mk (fun (gf bv : Nat) => rdo_calls w0 g ma A c l N tr gf fb bv I fn.toNat (rstep_calls w0 g ma A c l N tr gf fb bv I fn.toNat hI' hIL hC hfw (by omega)) hok (by have := hsm.len; omega) hC (by omega) (l.getD fn.toNat zFF).body (hsm.body _ hbody))
 have HRF := Aside0.mk (hfr _ hbody)
 have HBB := Aside0.mk (And.intro hfo.body (And.intro (hfi.ins _ hbody) (hfi.names _ hbody)))
 obtain ⟨R, hRr⟩ : ∃ R, instX I l N fn fb ins m cn = R := ⟨_, rfl⟩
 rw [hRr]
 have HRN := Aside0.mk (fun (m1 : List Cl) (cn1 : Int) (h : doL I l N fb (l.getD fn.toNat zFF).body (setAll (l.getD fn.toNat zFF).params ins (fun _ => none)) m cn = (m1, cn1, none)) => show R = (m1, cn1, none) by rw [← hRr]; exact instX_none h)
 have HRS := Aside0.mk (fun (m1 : List Cl) (cn1 : Int) (f1 : Vars) (h : doL I l N fb (l.getD fn.toNat zFF).body (setAll (l.getD fn.toNat zFF).params ins (fun _ => none)) m cn = (m1, cn1, some f1)) => show R = (m1, cn1, outsV f1 (l.getD fn.toNat zFF).results) by rw [← hRr]; exact instX_some h)
 have H0 := Aside0.mk hR
 have HMI := Aside0.mk hmi
 have HII := Aside0.mk hii
 have HLE := Aside0.mk hlen
 have HV := Aside0.mk hV
 have HBL := Aside0.mk (show ∀ ad, B = some ad → ins ≠ [] → ad.block < w.heap.size from fun ad e hne => intsLt hV ad e hne)
 have NG := Aside0.mk (show g < w.heap.size ∧ ma.block < w.heap.size ∧ w0.heap.size ≤ w.heap.size from ⟨blk_lt hR.blk, blk_lt hR.mem.2, hR.below.size⟩)
 have hfn1 : fn < (l.length : Int) := by omega
 obtain ⟨xad, xcs, rfl, _, xK, xcc⟩ := Kd.C_get hC zFF fn (by omega) (by omega)
 have y0 := (blk_cell hR.blk 0).trans rfl
 have y1 := (blk_cell hR.blk 1).trans rfl
 clear hI' hI hIL hok hsm hfi hC hfw hfr hd hfo hbody hRr hlen hmi hii hV
 have xK' := xK
 obtain ⟨xA0, xc0, xA1, xc1, xA3, xc3, xA4, xc4, xA5, xc5, rfl, xl0, xg0, xl1, xg1, xl3, xg3, xl4, xg4, xl5, xg5⟩ := kFF_open6 xK'
 have xx0 := (hR.below.cell (World.block_lt_of_cell? w0 _ (xcc 0 _ rfl))).trans (xcc 0 _ rfl)
 have xx1 := (hR.below.cell (World.block_lt_of_cell? w0 _ (xcc 1 _ rfl))).trans (xcc 1 _ rfl)
 have xx2 := (hR.below.cell (World.block_lt_of_cell? w0 _ (xcc 2 _ rfl))).trans (xcc 2 _ rfl)
 have xx3 := (hR.below.cell (World.block_lt_of_cell? w0 _ (xcc 3 _ rfl))).trans (xcc 3 _ rfl)
 have xx4 := (hR.below.cell (World.block_lt_of_cell? w0 _ (xcc 4 _ rfl))).trans (xcc 4 _ rfl)
 have xx5 := (hR.below.cell (World.block_lt_of_cell? w0 _ (xcc 5 _ rfl))).trans (xcc 5 _ rfl)
 rw [show (kFF).sz = 6 from rfl, Nat.add_zero] at xx0
 rw [show (kFF).sz = 6 from rfl, add_field _ _ 1 (by omega)] at xx1
 rw [show (kFF).sz = 6 from rfl, add_field _ _ 2 (by omega)] at xx2
 rw [show (kFF).sz = 6 from rfl, add_field _ _ 3 (by omega)] at xx3
 rw [show (kFF).sz = 6 from rfl, add_field _ _ 4 (by omega)] at xx4
 rw [show (kFF).sz = 6 from rfl, add_field _ _ 5 (by omega)] at xx5
 clear xcc hR
 generalize l.getD fn.toNat zFF = x at xx0 xx1 xx2 xx3 xx4 xx5 xK xl0 xg0 xl1 xg1 xl3 xg3 xl4 xg4 xl5 xg5 HDO HRF HBB HRN HRS HLE
 clear xK xl0 xl1 xl3 xg3 xl4 xg4 xl5
 have xG0 := Aside0.mk xg0; clear xg0
 have xG1 := Aside0.mk xg1; clear xg1
 have xG5 := Aside0.mk xg5; clear xg5
 go_enter Tryz.func53, Tryz.ntmps53
 go_upto_region 2 with ((with_reducible refine gate_store (t := 35) (p := 10) rfl ?_); refine store_whole rfl rfl 35 _ _ rfl w.heap.size _ 35 rfl (blk_new _ _) _ rfl rfl rfl (by simp [Value.oneCell']) ?_; intro w2 hb2 hg2; have HB := Aside0.mk (below_as (Below.refl w.heap.size w) hg2); obtain ⟨gx, hq_⟩ : ∃ g_, g_ = w.heap.size := ⟨_, rfl⟩; rw [← hq_] at hb2; rw [← hq_]; have NX := Aside0.mk (show gx ≠ g ∧ gx ≠ ma.block ∧ gx < w2.heap.size ∧ w.heap.size ≤ gx from by have := NG.out; have := blk_lt hb2; omega); have BX := Aside0.mk hb2; clear hb2 hg2 hq_)
 clear y0 xx0 xx1 xx2 xx3 xx4 xx5
 go_upto_region 3 with fail
 have HBA := Aside0.mk (below_alloc (Below.refl w2.heap.size w2) (.cells #[.pointer (some ⟨g, 0, none⟩), .int .i64 ab, .slice none 0 0, .bool false] 132))
 have BF := Aside0.mk (blk_new w2 (.cells #[.pointer (some ⟨g, 0, none⟩), .int .i64 ab, .slice none 0 0, .bool false] 132))
 replace BX := Aside0.mk (below_blk BX.out HBA.out)
 replace HB := Aside0.mk (below_step HB.out HBA.out)
 replace H0 := Aside0.mk (H0.out.below' HB.out)
 have HC := Aside0.mk (Kd.C_below HV.out HB.out)
 have y1 := (blk_cell H0.out.blk 1).trans rfl
 obtain ⟨gf, hgf⟩ : ∃ gf, w2.heap.size = gf := ⟨_, rfl⟩
 have NF := Aside0.mk (show gf ≠ gx ∧ g < gf ∧ ma.block < gf ∧ w.heap.size ≤ gf ∧ w0.heap.size ≤ gf from by have := NX.out; have := NG.out; omega)
 generalize w2.alloc (.cells #[.pointer (some ⟨g, 0, none⟩), .int .i64 ab, .slice none 0 0, .bool false] 132) = w3 at BF BX HB H0 HC y1 ⊢
 rw [hgf] at BF ⊢
 clear HBA hgf HV
 obtain ⟨bv, hbv⟩ : ∃ bv, gf + 1 = bv := ⟨_, rfl⟩
 have NBV := Aside0.mk (show gf < bv by omega)
 have hfew := H0.out.few
 obtain ⟨bo, hbo⟩ : ∃ bo : Bool, decide (ab < 0 ∨ ab > (N : Int)) = bo := ⟨_, rfl⟩
 go_cut [38] from 28 to 38 (fun s38 wx => s38 = .bool bo ∧ wx = w3)
 case first =>
  by_cases b0 : ab < 0
  ·have d0 : decide (ab < 0) = true := decide_eq_true b0
   have hb : bo = true := by rw [← hbo]; first | exact decide_eq_true (by omega) | exact decide_eq_false (by omega)
   clear hbo
   go_wp2_with fail
   go_meet
   case rel => exact ⟨by rw [hb], rfl⟩
  ·have d0 : decide (ab < 0) = false := decide_eq_false b0
   by_cases b1 : ab > (N : Int)
   ·have d1 : decide (ab > (N : Int)) = true := decide_eq_true b1
    have hb : bo = true := by rw [← hbo]; first | exact decide_eq_true (by omega) | exact decide_eq_false (by omega)
    clear hbo
    go_wp2_with fail
    go_meet
    case rel => exact ⟨by rw [hb], rfl⟩
   ·have d1 : decide (ab > (N : Int)) = false := decide_eq_false b1
    have hb : bo = false := by rw [← hbo]; first | exact decide_eq_true (by omega) | exact decide_eq_false (by omega)
    clear hbo
    go_wp2_with fail
    go_meet
    case rel => exact ⟨by rw [hb], rfl⟩
 case rest =>
 obtain ⟨rfl, hw⟩ := hcut
 replace hw := hw.symm
 subst hw
 go_upto_if 38 with (fail)
 go_cut [39] from 39 to 46 (fun s39 wx => Aside0 ((FAtR w0 wx g ma (some xad) c l N m tr cn gf fb bv 0 (fun _ => none) false) ∧ (Below w.heap.size w wx) ∧ (wx.heap[gx]? = some (.cells #[.slice xA0 (x.params).length xc0, .slice xA1 (x.results).length xc1, .int .i64 x.cells, .slice xA3 (x.flags).length xc3, .slice xA4 (x.parts).length xc4, .slice xA5 (x.body).length xc5] 35 (0, 0))) ∧ ((Kd.int .i64).C wx B ins.length ins)))
 case first =>
  have HNB := Aside0.mk (show ∀ ad, B = some ad → ins ≠ [] → ad.block ≠ gf from fun ad e hne he => by have := HBL.out ad e hne; have := NF.out; omega)
  cases bo with
  | true =>
   have hfe : fb = (N : Int) := HAJ.out ▸ if_pos (of_decide_eq_true hbo)
   clear hbo
   have f1 := blk_frozen BF.out 1
   have k1 := (blk_cell BF.out 1).trans rfl
   have BF2 := Aside0.mk (blk_put BF.out 1 (.int .i64 (N : Int)) rfl)
   have ht := (Turned.refl (fun b => b = gf) w3).set (p := ⟨gf, 1, none⟩) rfl (.int .i64 (N : Int))
   have HF := Aside0.mk (fatR_mk (b := (N : Int)) (H0.out.moved ht (fun e => by have := NF.out; omega) (fun e => by have := NF.out; omega) (fun k e => by have := NF.out; rw [e]; omega)) HMI.out BF2.out (by omega) (Int.le_refl _) NF.out.2.2.2.2 NF.out.2.1 NF.out.2.2.1)
   rw [hbv] at HF
   have HB2 := Aside0.mk (below_set (w := w) (g := gf) (j := 1) (v := .int .i64 (N : Int)) HB.out NF.out.2.2.2.1)
   have BX2 := Aside0.mk (blk_far BX.out (p := ⟨gf, 1, none⟩) (fun e => NF.out.1 e.symm) (.int .i64 (N : Int)))
   have HC2 := Aside0.mk (ints_block HC.out (fun ad e hne => ht.block ad.block (intsLt HC.out ad e hne) (HNB.out ad e hne)))
   clear ht hfew
   subst hfe
   go_wp2_with fail
   go_meet
   case rel => exact ⟨HF.out, HB2.out, BX2.out, HC2.out⟩
  | false =>
   have hfe : ab = fb := HAJ.out ▸ (if_neg (of_decide_eq_false hbo)).symm
   clear hbo
   rw [hfe] at BF
   have HF := Aside0.mk (fatR_mk H0.out HMI.out BF.out HFB.out.1 HFB.out.2 NF.out.2.2.2.2 NF.out.2.1 NF.out.2.2.1)
   rw [hbv] at HF
   clear y1 hfew
   go_wp2_with fail
   go_meet
   case rel => exact ⟨HF.out, HB.out, BX.out, HC.out⟩
 case rest =>
 clear H0 HB BX HC BF y1 hfew hbo
 have HBIG := hcut
 clear hcut
 have HF := Aside0.mk HBIG.out.1; have HB := Aside0.mk HBIG.out.2.1; have BX := Aside0.mk HBIG.out.2.2.1; have HC := Aside0.mk HBIG.out.2.2.2; clear HBIG
 obtain ⟨w3, hw3⟩ : ∃ w3, w3 = wc := ⟨_, rfl⟩
 subst hw3
 have HT := Aside0.mk (DV_below (g := g) (ma := ma) (gf := gf) (bv := bv) (Below.refl w3.heap.size w3))
 have hbb := HBB.out.2.2
 have him : ins.length ≤ 9223372036854775807 := HC.out.2.1
 go_wp2_with fail
 go_loopg [12] ins.length (fun gg s12 wr => ∃ (kk : Nat) (f2 : Vars), kk ≤ ins.length ∧ ins.length - kk ≤ gg ∧ s12 = .int .i64 kk ∧ Aside0 (FAtR w0 wr g ma (some xad) c l N m tr cn gf fb bv kk f2 false) ∧ Aside0 (Turned (DV g ma gf bv w3) w3 wr) ∧ Aside0 (wr.heap[gx]? = some (.cells #[.slice xA0 (x.params).length xc0, .slice xA1 (x.results).length xc1, .int .i64 x.cells, .slice xA3 (x.flags).length xc3, .slice xA4 (x.parts).length xc4, .slice xA5 (x.body).length xc5] 35 (0, 0))) ∧ Aside0 ((Kd.int .i64).C wr B ins.length ins) ∧ Aside0 (setAll (x.params.drop kk) (ins.drop kk) f2 = setAll x.params ins (fun _ => none)))
 case atStart => exact ⟨0, _, Nat.zero_le _, by omega, rfl, HF, HT, BX, HC, ⟨rfl⟩⟩
 case round =>
  clear HF HT BX HC
  obtain ⟨kk, f2, hkk, hgk, rfl, HF, HT, BX, HC, HS⟩ := hrel
  by_cases hlt : kk < ins.length
  ·have hltz : (kk : Int) < (ins.length : Int) := by omega
   have hltn : (kk : Int) < (x.params.length : Int) := by have := HLE.out; omega
   have HS1 := Aside0.mk (show setAll (x.params.drop (kk + 1)) (ins.drop (kk + 1)) (mupd f2 (x.params.getD kk ⟨#[]⟩) (ins.getD kk (0 : Int), true)) = setAll x.params ins (fun _ => none) by rw [← setAll_cons f2 x.params ins kk (by have := HLE.out; omega) hlt]; exact HS.out)
   clear HS
   have hvi := HII.out _ (getD_mem hlt (0 : Int))
   have hne : ins ≠ [] := fun e => by rw [e] at hlt; simp at hlt
   have hlb := fun ad (e : B = some ad) => intsLt HC.out ad e hne
   obtain ⟨nad, ncs, hne2, _, nK, ncc⟩ := Kd.C_get HC.out (0 : Int) (kk : Int) (by omega) (by omega)
   have HNB := Aside0.mk (HBL.out nad hne2 hne)
   subst hne2
   obtain rfl := nK
   have nx0 := ncc 0 _ rfl
   simp only [show (Kd.int .i64).sz = 1 from rfl, Nat.mul_one, Nat.add_zero, Int.toNat_natCast] at nx0
   clear ncc hne
   generalize Yv0 : ins.getD kk (0 : Int) = v at nx0 hvi
   have Yv := Aside0.mk Yv0; clear Yv0
   obtain ⟨tad, tcs, hte, _, tK, tcc⟩ := Kd.C_get xG0.out (⟨#[]⟩ : ByteArray) (kk : Int) (by omega) (by have := HLE.out; omega)
   subst hte
   obtain rfl := tK
   have tx0 := (HF.out.run.below.cell (World.block_lt_of_cell? w0 _ (tcc 0 _ rfl))).trans (tcc 0 _ rfl)
   simp only [show Kd.string.sz = 1 from rfl, Nat.mul_one, Nat.add_zero, Int.toNat_natCast] at tx0
   clear tcc
   generalize Ynm0 : x.params.getD kk (⟨#[]⟩ : ByteArray) = nm at tx0
   have Ynm := Aside0.mk Ynm0; clear Ynm0
   rw [Yv.out, Ynm.out] at HS1
   have cx_0 := (blk_cell BX.out 0).trans rfl
   have hset := set_calls (HF.out.below' (below_drew1 (Below.refl _ _))) nm (v, true) hvi (by have := HLE.out; omega)
   unfold encR at hset
   simp only [] at hset
   go_wp2_with fail
   go_still_tail 11, (by kernel_rfl)
   change wpList _ _ _ _ _ (World.drew wr)
   go_wp2_with fail
   refine hset.mono ?_
   rintro e w7 ⟨rfl, hF7, ht7⟩
   replace HC := Aside0.mk (ints_block (Kd.C_below HC.out (below_drew1 (Below.refl _ _))) (fun ad e _ => ht7.block ad.block (hlb ad e) (by injection e with e; rw [← e]; have h1 := HNB.out; have h2 := NF.out; have h3 := NBV.out; rintro (e2 | ⟨e2, _⟩); (focus omega); omega)))
   replace HF := Aside0.mk hF7
   replace BX := Aside0.mk (DV_blk (DV_set (g := g) (ma := ma) ht7) (blk_drew BX.out) NX.out.1 NX.out.2.1 (Ne.symm NF.out.1) (by decide))
   replace HT := Aside0.mk (DV.trans HT.out.drew (DV_set ht7))
   clear hset cx_0 tx0 nx0 hF7 ht7 hlb
   go_wp2_with fail
   go_roundg (ins.length - (kk + 1))
   case measure => omega
   case rel => exact ⟨kk + 1, mupd f2 nm (v, true), by omega, by omega, by go_num, HF, HT, BX, HC, HS1⟩
  ·obtain rfl : kk = ins.length := by omega
   have hltz : ¬ ((ins.length : Int) < (ins.length : Int)) := by omega
   have HFE := Aside0.mk (show f2 = setAll x.params ins (fun _ => none) by have h := HS.out; rw [List.drop_length, List.drop_of_length_le (by have := HLE.out; omega)] at h; rw [← h]; first | rfl | (unfold setAll; rfl))
   clear HS hlt hkk hgk HC
   rw [← HFE.out] at HRN HRS
   have cx_5 := (blk_cell BX.out 5).trans rfl
   have HCL := Aside0.mk (HDO.out gf bv f2 m cn ins.length _ xA5 xc5 HBB.out.1 HBB.out.2.1 HF.out xG5.out (by have := HLE.out; omega))
   go_wp2_with fail
   clear cx_5
   refine HCL.out.mono ?_
   intro e w9 hp
   unfold RDoPost at hp
   rcases hr : doL I l N fb x.body f2 m cn with ⟨m2, cn2, _ | f3⟩
   ·rw [hr] at hp
    obtain ⟨⟨rfl, hR9, hm9⟩, ht9⟩ := hp
    have HRE := Aside0.mk (HRN.out m2 cn2 hr)
    have HR9 := Aside0.mk hR9
    have HM9 := Aside0.mk hm9
    have HT9 := Aside0.mk (DV_out HB.out (DV.trans HT.out ht9) NF.out.2.2.2.1 (by have := NF.out; have := NBV.out; omega))
    clear hr hR9 hm9 ht9 HF HT BX HRN HRS HDO HCL
    go_wp2_with fail
    go_ret2
    exact rin_no HRE.out HR9.out HM9.out HT9.out
   ·rw [hr] at hp
    obtain ⟨⟨rfl, hF9⟩, ht9⟩ := hp
    have HRE := Aside0.mk (HRS.out m2 cn2 f3 hr)
    replace HF := Aside0.mk hF9
    replace BX := Aside0.mk (DV_blk ht9 BX.out NX.out.1 NX.out.2.1 (Ne.symm NF.out.1) (by decide))
    replace HT := Aside0.mk (DV_out HB.out (DV.trans HT.out ht9) NF.out.2.2.2.1 (by have := NF.out; have := NBV.out; omega))
    clear hr hF9 ht9 HRN HRS HDO HCL HB
    have cx_1 := (blk_cell BX.out 1).trans rfl
    have HU := Aside0.mk Tryz.underlying49
    have HW := Aside0.mk (Below.refl w9.heap.size w9)
    have HRW := Aside0.mk (Kd.R_nil (Kd.int .i64) 2 w9 w9.heap.size (fun _ => True))
    have hrm : x.results.length ≤ 8796093022208 := HRF.out
    go_wp2_with fail
    clear cx_1
    go_loopg [13, 14] x.results.length (fun gg s13 s14 wr => ∃ (kk : Nat) (v5 : Value) (vs : List Int), kk ≤ x.results.length ∧ x.results.length - kk ≤ gg ∧ s14 = .int .i64 kk ∧ s13 = v5 ∧ Aside0 (Below w9.heap.size w9 wr) ∧ Aside0 ((Kd.int .i64).R 2 wr w9.heap.size (fun _ => True) v5 vs) ∧ Aside0 (vs.length = kk) ∧ Aside0 (outP vs (outsV f3 (x.results.drop kk)) = outsV f3 x.results) ∧ Aside0 (∀ v ∈ vs, InR v))
    case atStart => exact ⟨0, _, [], Nat.zero_le _, by omega, rfl, rfl, HW, HRW, ⟨rfl⟩, ⟨outP_start _⟩, ⟨fun v hv => by cases hv⟩⟩
    case round =>
     clear HW HRW
     obtain ⟨kk, v5, vs, hkk, hgk, rfl, rfl, HW, HRW, HVL, HP, HVI⟩ := hrel
     obtain ⟨A6, c6, rfl⟩ := Kd.R_slice HRW.out
     have cx_1 := (blk_cell (below_blk BX.out HW.out) 1).trans rfl
     by_cases hlt : kk < x.results.length
     ·have hltz : (kk : Int) < (x.results.length : Int) := by omega
      have HP1 := Aside0.mk (show outP vs (outsV f3 (x.results.getD kk ⟨#[]⟩ :: x.results.drop (kk + 1))) = outsV f3 x.results by rw [← drop_getD x.results kk hlt ⟨#[]⟩]; exact HP.out)
      clear HP
      have HFW := Aside0.mk (HF.out.below' HW.out)
      obtain ⟨tad, tcs, hte, _, tK, tcc⟩ := Kd.C_get xG1.out (⟨#[]⟩ : ByteArray) (kk : Int) (by omega) (by omega)
      subst hte
      obtain rfl := tK
      have tx0 := (HFW.out.run.below.cell (World.block_lt_of_cell? w0 _ (tcc 0 _ rfl))).trans (tcc 0 _ rfl)
      simp only [show Kd.string.sz = 1 from rfl, Nat.mul_one, Nat.add_zero, Int.toNat_natCast] at tx0
      clear tcc
      generalize Ynm0 : x.results.getD kk (⟨#[]⟩ : ByteArray) = nm at tx0
      have Ynm := Aside0.mk Ynm0; clear Ynm0
      rw [Ynm.out] at HP1
      obtain ⟨⟨v, on⟩, hcv⟩ : ∃ cv, vget f3 nm = cv := ⟨_, rfl⟩
      have hvi := HF.out.inv nm
      have hg := get_calls HFW.out nm
      rw [hcv] at hg hvi
      unfold encR at hg
      simp only [] at hg
      have HCV := Aside0.mk hcv
      have HVV := Aside0.mk hvi
      clear hcv hvi
      go_wp2_with fail
      refine hg.mono ?_
      rintro e w6 ⟨rfl, hb⟩
      replace HW := Aside0.mk (below_step HW.out hb)
      replace HRW := Aside0.mk (Kd.R_below HRW.out hb)
      clear hb hg cx_1 tx0 HFW
      cases on with
      | false =>
       have HRE2 := Aside0.mk (show R = (m2, cn2, none) by rw [HRE.out, ← HP1.out, outP_none HCV.out])
       go_wp2_with ((with_reducible refine gate_store (t := 93) (p := 15) rfl ?_); refine store_whole rfl rfl 93 _ _ rfl w6.heap.size _ 93 rfl (blk_new _ _) _ rfl rfl rfl (by simp [Value.oneCell']) ?_; intro w8 hb2 hg2; have HBA := Aside0.mk (below_as (Below.refl w6.heap.size w6) hg2); replace HW := Aside0.mk (below_step HW.out HBA.out); replace HRW := Aside0.mk (Kd.R_below HRW.out HBA.out); obtain ⟨gc, hq_⟩ : ∃ g_, g_ = w6.heap.size := ⟨_, rfl⟩; rw [← hq_] at hb2; rw [← hq_]; have BC := Aside0.mk hb2; clear hb2 hg2 hq_ HBA; have cc_0 := (blk_cell BC.out 0).trans rfl; have cc_1 := (blk_cell BC.out 1).trans rfl)
       go_ret2
       exact rin_no HRE2.out (HF.out.below' HW.out).run HF.out.inm (HT.out.step HW.out)
      | true =>
       have HP2 := Aside0.mk (show outP (vs ++ [v]) (outsV f3 (x.results.drop (kk + 1))) = outsV f3 x.results by rw [← HP1.out, outP_some HCV.out])
       have HVL1 := Aside0.mk (show (vs ++ [v]).length = kk + 1 by have := HVL.out; simp; omega)
       have HVI1 := Aside0.mk (show ∀ u ∈ vs ++ [v], InR u from fun u hu => by rcases List.mem_append.1 hu with hu | hu; (focus exact HVI.out u hu); rw [List.mem_singleton.1 hu]; exact HVV.out)
       clear HP1 HCV
       go_wp2_with (first | ((with_reducible refine gate_store (t := 93) (p := 15) rfl ?_); refine store_whole rfl rfl 93 _ _ rfl w6.heap.size _ 93 rfl (blk_new _ _) _ rfl rfl rfl (by simp [Value.oneCell']) ?_; intro w8 hb2 hg2; have HBA := Aside0.mk (below_as (Below.refl w6.heap.size w6) hg2); replace HW := Aside0.mk (below_step HW.out HBA.out); replace HRW := Aside0.mk (Kd.R_below HRW.out HBA.out); obtain ⟨gc, hq_⟩ : ∃ g_, g_ = w6.heap.size := ⟨_, rfl⟩; rw [← hq_] at hb2; rw [← hq_]; have BC := Aside0.mk hb2; clear hb2 hg2 hq_ HBA; have cc_0 := (blk_cell BC.out 0).trans rfl; have cc_1 := (blk_cell BC.out 1).trans rfl) | (at_builtin; refine Kd.R_append (Kd.int .i64) (w0 := w9) w9.heap.size rfl (.tmp 87) (.tmp 90) 49 2 (.int .i64 0) 8 rfl HU.out info_int64 rfl (by decide) (by omega) (.slice A6 vs.length c6) vs v [.int .i64 v] (fun _ => True) (fun _ => False) rfl rfl (show (Kd.int .i64).M _ _ _ v [.int .i64 v] from rfl) (fun k hk => hk.elim) (fun _ _ => trivial) HRW.out HW.out HW.out.size (by have := HVL.out; omega) ?_; intro v1 w7 hr7 hb7 hg7 hat7; have HRW7 := Aside0.mk hr7; have HW7 := Aside0.mk hb7; clear hr7 hg7 hat7 hb7 HRW HW))
       go_roundg (x.results.length - (kk + 1))
       case measure => omega
       case rel => exact ⟨kk + 1, v1, vs ++ [v], by omega, by omega, by go_num, rfl, HW7, HRW7, HVL1, HP2, HVI1⟩
     ·obtain rfl : kk = x.results.length := by omega
      have hltz : ¬ ((x.results.length : Int) < (x.results.length : Int)) := by omega
      have HTY := Aside0.mk (fun k (hk : (Value.slice A6 vs.length c6).ownBlock = some k) => And.intro (Kd.R_base HRW.out k hk) (R_typed HRW.out k hk))
      obtain ⟨A7, c7, hv6, _, hC6⟩ := Kd.R_reads HRW.out
      injection hv6 with hv7 hv8 hv9
      subst hv7
      subst hv9
      have HC6 := Aside0.mk hC6
      have HFR := Aside0.mk (show ∀ ad, A6 = some ad → w.heap.size ≤ ad.block ∧ ¬ IsSl wr ad.block from fun ad e => by
       subst e
       obtain ⟨h1, cs1, h3⟩ := HTY.out ad.block rfl
       have h2 := HT.out.size
       exact ⟨by omega, IsSl.not h3 (by decide)⟩)
      have HRE2 := Aside0.mk (show R = (m2, cn2, some vs) by rw [HRE.out, ← HP.out, List.drop_length, outP_end])
      clear hC6 hv8 HRW HP HRE HTY
      go_wp2_with fail
      go_ret2
      exact rin_yes HRE2.out (HF.out.below' HW.out).run HF.out.inm (HT.out.step HW.out) HC6.out HFR.out HVI.out
theorem rinstF_says (w0 : World) (g : Nat) (ma : Addr) (A : Option Addr) (c : Nat) (l : List FF) (N : Nat) (tr : Bool) (hok : flatOk l = true) (hsm : FlatSmall l) (hfi : FlatIn l) (hC : kFF.C w0 A l.length l) (hfw : ∀ f ∈ l, f.params.length ≤ 8796093022208) (hfr : ∀ f ∈ l, f.results.length ≤ 8796093022208) : ∀ d : Nat, d ≤ l.length → RISays w0 g ma A c l N tr d (instF l N d)
 | 0, _ => fun fn _ _ _ _ _ _ _ h0 h1 => absurd h0 (by omega)
 | d + 1, hd => rinstant_step w0 g ma A c l N tr (instF l N d) d (rinstF_says w0 g ma A c l N tr hok hsm hfi hC hfw hfr d (by omega)) (instF_length l N d) hok hsm hfi hC hfw hfr (by omega)
end Go.Proofs.YticndoihkfbpoaaGreatDoor
