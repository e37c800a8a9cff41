/- Package runner: instant: a function's instant. -/
import Derived.Test.YticndoihkfbpoaaGreatDoorXg
import Derived.Test.YticndoihkfbpoaaGreatDoorXh
namespace Go.Proofs.YticndoihkfbpoaaGreatDoor
open Go Go.RowKit Go.Lib Go.Proofs.YticndoihkfbpoaaGreatDoorW.PrintWords Go.Proofs.YticndoihkfbpoaaGreatDoor.PScope
set_option maxRecDepth 100000
set_option linter.unusedSimpArgs false
set_option linter.unusedVariables false
attribute [local irreducible] wpStill
def outP (vs : List Int) (r : Option (List Int)) : Option (List Int) := r.map (fun q => vs ++ q)
theorem outP_start (r : Option (List Int)) : outP [] r = r := by
 unfold outP
 cases r <;> simp
theorem outP_end {f : Vars} {vs : List Int} : outP vs (outsV f []) = some vs := by
 unfold outP outsV
 simp
theorem outP_none {f : Vars} {s : ByteArray} {r : List ByteArray} {vs : List Int} {v : Int} (h : vget f s = (v, false)) : outP vs (outsV f (s :: r)) = none := by
 unfold outP outsV
 rw [h]; rfl
theorem outP_some {f : Vars} {s : ByteArray} {r : List ByteArray} {vs : List Int} {v : Int} (h : vget f s = (v, true)) : outP vs (outsV f (s :: r)) = outP (vs ++ [v]) (outsV f r) := by
 unfold outP
 rw [outsV, h]
 cases outsV f r with
 | none => rfl
 | some q => simp
theorem instX_none {I : Inst} {l : List FF} {N : Nat} {k base : Int} {ins : List Int} {m : List Cl} {cn : Int} {m1 : List Cl} {cn1 : Int} (h : doL I l N base (l.getD k.toNat zFF).body (setAll (l.getD k.toNat zFF).params ins (fun _ => none)) m cn = (m1, cn1, none)) : instX I l N k base ins m cn = (m1, cn1, none) := by
 unfold instX
 rw [h]
theorem instX_some {I : Inst} {l : List FF} {N : Nat} {k base : Int} {ins : List Int} {m : List Cl} {cn : Int} {m1 : List Cl} {cn1 : Int} {f1 : Vars} (h : doL I l N base (l.getD k.toNat zFF).body (setAll (l.getD k.toNat zFF).params ins (fun _ => none)) m cn = (m1, cn1, some f1)) : instX I l N k base ins m cn = (m1, cn1, outsV f1 (l.getD k.toNat zFF).results) := by
 unfold instX
 rw [h]
theorem inPost_trap {w0 w w' : World} {g : Nat} {ma : Addr} {A : Option Addr} {c : Nat} {l : List FF} {N : Nat} {tr : Bool} {R : List Cl × Int × Option (List Int)} {m1 : List Cl} {cn1 : Int} (hR : R = (m1, cn1, none)) (hr : RAt w0 w' g ma A c l N m1 tr cn1) (ht : Turned (fun b => b = g ∨ b = ma.block) w w') : InPost w0 g ma A c l N tr R w trapE w' := by
 subst hR
 exact ⟨rfl, hr, ht⟩
theorem inPost_done {w0 w w' : World} {g : Nat} {ma : Addr} {A : Option Addr} {c : Nat} {l : List FF} {N : Nat} {tr : Bool} {R : List Cl × Int × Option (List Int)} {m1 : List Cl} {cn1 : Int} {xs : List Int} {B : Option Addr} {cB : Nat} (hR : R = (m1, cn1, some xs)) (hr : RAt w0 w' g ma A c l N m1 tr cn1) (ht : Turned (fun b => b = g ∨ b = ma.block) w w') (hC : (Kd.int .i64).C w' B xs.length xs) (hf : ∀ ad, B = some ad → w.heap.size ≤ ad.block) : InPost w0 g ma A c l N tr R w (.returned (.slice B xs.length cB)) w' := by
 subst hR
 exact ⟨⟨B, cB, rfl, hC, hf⟩, hr, ht⟩
theorem T3_fresh {w w' : World} {g mp : Nat} {ma : Addr} (h : Turned (fun b => b = g ∨ b = ma.block ∨ b = mp) w w') (hm : w.heap.size ≤ mp) : Turned (fun b => b = g ∨ b = ma.block) w w' := h.mono (fun k hk hs => hs.elim .inl (fun e => e.elim .inr (fun e => by omega)))
theorem fat_new {w0 w wm : World} {g : Nat} {ma : Addr} {A : Option Addr} {c : Nat} {l : List FF} {N : Nat} {m : List Cl} {tr : Bool} {cn : Int} {fb : Int} {mp : Nat} (h : RAt w0 w g ma A c l N m tr cn) (hb : Below w.heap.size w wm) (hs : StrMap wm mp (fun _ => none)) (hmp : w.heap.size ≤ mp) (h0 : 0 ≤ fb) (h1 : fb ≤ (N : Int)) :
  FAt w0 (wm.alloc (.cells #[.pointer (some ⟨g, 0, none⟩), .int .i64 fb, .map (some mp)] 126 (0, 0))) g ma A c l N m tr cn wm.heap.size fb mp (fun _ => none) := by
 have hb' := below_alloc hb (.cells #[.pointer (some ⟨g, 0, none⟩), .int .i64 fb, .map (some mp)] 126 (0, 0))
 exact ⟨h.below' hb', blk_new _ _, (show StrMap wm mp (menc encC (fun _ => none)) from hs).below (below_alloc (Below.refl _ _) _), h0, h1, Nat.le_trans h.below.size hb.size, Nat.le_trans h.below.size hmp⟩
set_option maxHeartbeats 8000000 in
theorem instant_step (w0 : World) (g : Nat) (ma : Addr) (A : Option Addr) (c : Nat) (l : List FF) (N : Nat) (tr : Bool) (I : Inst) (d : Nat) (hI : ISays w0 g ma A c l N tr d I)
  (hIL : ∀ (k fb : Int) (ins : List Int) (m : List Cl) (cn : Int) (xs : List Int), (I k fb ins m cn).2.2 = some xs → xs.length = (l.getD k.toNat zFF).results.length) (hok : flatOk l = true) (hsm : FlatSmall l) (hC : kFF.C w0 A l.length l) (hfw : ∀ f ∈ l, f.params.length ≤ 8796093022208) (hfr : ∀ f ∈ l, f.results.length ≤ 8796093022208) (hd : (d : Int) < (l.length : Int)) : ISays w0 g ma A c l N tr (d + 1) (instX I l N) := by
 intro fn fb ins m cn w cs B cB h0 h1 hb0 hb1 hlen hR hV hK
 have hfo := FunOk.of (funOk hok (k := fn.toNat) (by omega))
 obtain ⟨x, hx⟩ : ∃ x, l.getD fn.toNat zFF = x := ⟨_, rfl⟩
 rw [hx] at hlen hK hfo
 have hxm : x ∈ l := by rw [← hx]; exact getD_mem (by omega) zFF
 have HSB := Aside0.mk (hsm.body x hxm)
 have HRF := Aside0.mk (hfr x hxm)
 have HBB := Aside0.mk hfo.body
 have hI' : ISays w0 g ma A c l N tr fn.toNat I := fun fn' fb' ins' m' cn' w' cs' B' cB' a0 a1 => hI fn' fb' ins' m' cn' w' cs' B' cB' a0 (by omega)
 have HDO := Aside0.mk (fun (gf mp : Nat) => do_calls w0 g ma A c l N tr gf fb mp I fn.toNat (step_calls w0 g ma A c l N tr gf fb mp I fn.toNat hI' hIL hC hfw (by omega)) hok (by have := hsm.len; omega) hC (by omega) x.body (hsm.body x hxm) hfo.body)
 obtain ⟨R, hRr⟩ : ∃ R, instX I l N fn fb ins m cn = R := ⟨_, rfl⟩
 rw [hRr]
 have HRN := Aside0.mk (fun (m1 : List Cl) (cn1 : Int) (h : doL I l N fb x.body (setAll x.params ins (fun _ => none)) m cn = (m1, cn1, none)) => show R = (m1, cn1, none) by rw [← hRr]; exact instX_none (by rw [hx]; exact h))
 have HRS := Aside0.mk (fun (m1 : List Cl) (cn1 : Int) (f1 : Vars) (h : doL I l N fb x.body (setAll x.params ins (fun _ => none)) m cn = (m1, cn1, some f1)) => show R = (m1, cn1, outsV f1 x.results) by rw [← hRr, ← hx]; exact instX_some (by rw [hx]; exact h))
 have H0 := Aside0.mk hR
 have HB01 := Aside0.mk (And.intro hb0 hb1)
 have HLE := Aside0.mk hlen
 clear hI' hI hIL hok hsm hC hfw hfr hd hfo hx hxm hRr hb0 hb1 h0 h1 hlen
 obtain ⟨xA0, xc0, xA1, xc1, xA3, xc3, xA4, xc4, xA5, xc5, rfl, xl0, xg0, xl1, xg1, xl3, xg3, xl4, xg4, xl5, xg5⟩ := kFF_open6 hK
 have xL0 := Aside0.mk xl0; have xG0 := Aside0.mk xg0; clear xl0 xg0
 have xL1 := Aside0.mk xl1; have xG1 := Aside0.mk xg1; clear xl1 xg1
 have xL3 := Aside0.mk xl3; have xG3 := Aside0.mk xg3; clear xl3 xg3
 have xL4 := Aside0.mk xl4; have xG4 := Aside0.mk xg4; clear xl4 xg4
 have xL5 := Aside0.mk xl5; have xG5 := Aside0.mk xg5; clear xl5 xg5
 clear hK
 have hBA := below_alloc (Below.refl w.heap.size w) (.cells #[.slice xA0 (x.params).length xc0, .slice xA1 (x.results).length xc1, .int .i64 x.cells, .slice xA3 (x.flags).length xc3, .slice xA4 (x.parts).length xc4, .slice xA5 (x.body).length xc5] 35)
 have BX := Aside0.mk (blk_new w (.cells #[.slice xA0 (x.params).length xc0, .slice xA1 (x.results).length xc1, .int .i64 x.cells, .slice xA3 (x.flags).length xc3, .slice xA4 (x.parts).length xc4, .slice xA5 (x.body).length xc5] 35))
 have NX := Aside0.mk (show w.heap.size ≠ g ∧ w.heap.size ≠ ma.block from ⟨fun e => by have := blk_lt hR.blk; omega, fun e => by have := blk_lt hR.mem.2; omega⟩)
 have HB := Aside0.mk hBA
 have HC := Aside0.mk (Kd.C_below hV (show Below w.heap.size w _ from hBA))
 have LW := Aside0.mk (show w.heap.size < (w.alloc (.cells #[.slice xA0 (x.params).length xc0, .slice xA1 (x.results).length xc1, .int .i64 x.cells, .slice xA3 (x.flags).length xc3, .slice xA4 (x.parts).length xc4, .slice xA5 (x.body).length xc5] 35)).heap.size by simp)
 clear hR hV hBA
 go_enter Tryz.func52, Tryz.ntmps52
 go_wp2_with ((with_reducible refine gate_dst (N := 18) rfl ?_); refine make_str rfl _ rfl ?_; intro mp hg_ wm hm hb; have HM := Aside0.mk hm; have LM := Aside0.mk (show w.heap.size < mp by rw [hg_]; exact LW.out); replace BX := Aside0.mk (below_blk BX.out hb); replace HC := Aside0.mk (Kd.C_below HC.out hb); replace HB := Aside0.mk (below_step HB.out hb); clear hm hb hg_)
 have HF := Aside0.mk (fat_new H0.out HB.out HM.out (Nat.le_of_lt LM.out) HB01.out.1 HB01.out.2)
 have HBA := Aside0.mk (below_alloc (Below.refl wm.heap.size wm) (.cells #[.pointer (some ⟨g, 0, none⟩), .int .i64 fb, .map (some mp)] 126 (0, 0)))
 replace BX := Aside0.mk (below_blk BX.out HBA.out)
 replace HC := Aside0.mk (Kd.C_below HC.out HBA.out)
 replace HB := Aside0.mk (below_step HB.out HBA.out)
 clear HBA HM
 generalize wm.alloc (.cells #[.pointer (some ⟨g, 0, none⟩), .int .i64 fb, .map (some mp)] 126 (0, 0)) = w1 at HF BX HC HB ⊢
 obtain ⟨gf, hgf⟩ : ∃ gf, wm.heap.size = gf := ⟨_, rfl⟩
 rw [hgf] at HF ⊢
 clear hgf
 obtain ⟨gx, hgx⟩ : ∃ gx, w.heap.size = gx := ⟨_, rfl⟩
 have NXM := Aside0.mk (show gx ≠ mp by have := LM.out; omega)
 rw [hgx] at BX NX ⊢
 have HGX := Aside0.mk hgx
 have LM2 := Aside0.mk (Nat.le_of_lt LM.out)
 clear hgx LW
 have HT := Aside0.mk (T3_below (g := g) (ma := ma) (mp := mp) HB.out)
 have hLE := HLE.out
 have him : ins.length ≤ 9223372036854775807 := HC.out.2.1
 go_loopg [23] ins.length (fun gg s23 wr => ∃ (kk : Nat) (f2 : Vars), kk ≤ ins.length ∧ ins.length - kk ≤ gg ∧ s23 = .int .i64 kk ∧ Aside0 (FAt w0 wr g ma A c l N m tr cn gf fb mp f2) ∧ Aside0 (Turned (fun b => b = g ∨ b = ma.block ∨ b = mp) w wr) ∧ Aside0 (wr.heap[gx]? = some (.cells #[.slice xA0 (x.params).length xc0, .slice xA1 (x.results).length xc1, .int .i64 x.cells, .slice xA3 (x.flags).length xc3, .slice xA4 (x.parts).length xc4, .slice xA5 (x.body).length xc5] 35 (0, 0))) ∧ Aside0 ((Kd.int .i64).C wr B ins.length ins) ∧ Aside0 (setAll (x.params.drop kk) (ins.drop kk) f2 = setAll x.params ins (fun _ => none)))
 case atStart => exact ⟨0, _, Nat.zero_le _, by omega, rfl, HF, HT, BX, HC, ⟨rfl⟩⟩
 case round =>
  clear HF HT BX HC HB
  obtain ⟨kk, f2, hkk, hgk, rfl, HF, HT, BX, HC, HS⟩ := hrel
  by_cases hlt : kk < ins.length
  ·have hltz : (kk : Int) < (ins.length : Int) := by omega
   have hltn : (kk : Int) < (x.params.length : Int) := by omega
   have HS1 := Aside0.mk (show setAll (x.params.drop (kk + 1)) (ins.drop (kk + 1)) (mupd f2 (x.params.getD kk ⟨#[]⟩) (ins.getD kk (0 : Int), true)) = setAll x.params ins (fun _ => none) by rw [← setAll_cons f2 x.params ins kk (by omega) hlt]; exact HS.out)
   clear HS
   obtain ⟨nad, ncs, rfl, _, nK, ncc⟩ := Kd.C_get HC.out (0 : Int) (kk : Int) (by omega) (by omega)
   obtain rfl := nK
   have nx0 := ((Below.refl wr.heap.size wr).cell (World.block_lt_of_cell? wr _ (ncc 0 _ rfl))).trans (ncc 0 _ rfl)
   simp only [show (Kd.int .i64).sz = 1 from rfl, Nat.mul_one, Nat.add_zero, Int.toNat_natCast] at nx0
   clear ncc
   try simp only [Int.toNat_natCast] at nx0
   generalize Yv0 : ins.getD kk (0 : Int) = v at nx0
   have Yv := Aside0.mk Yv0; clear Yv0
   obtain ⟨tad, tcs, rfl, _, tK, tcc⟩ := Kd.C_get xG0.out (⟨#[]⟩ : ByteArray) (kk : Int) (by omega) (by omega)
   obtain rfl := tK
   have tx0 := (HF.out.run.below.cell (World.block_lt_of_cell? w0 _ (tcc 0 _ rfl))).trans (tcc 0 _ rfl)
   simp only [show Kd.string.sz = 1 from rfl, Nat.mul_one, Nat.add_zero, Int.toNat_natCast] at tx0
   clear tcc
   try simp only [Int.toNat_natCast] at tx0
   generalize Ynm0 : x.params.getD kk (⟨#[]⟩ : ByteArray) = nm at tx0
   have Ynm := Aside0.mk Ynm0; clear Ynm0
   rw [Yv.out, Ynm.out] at HS1
   have x2 := (blk_cell HF.out.frm 2).trans rfl
   have cx_0 := (blk_cell BX.out 0).trans rfl
   obtain ⟨w7, hmu, hs7, hg7⟩ := StrMap.store (P := Tryz.prog) (show StrMap (World.drew wr) mp (menc encC f2) from HF.out.vars) (t := 124) (k := 9) (e := 91) Tryz.underlying124 Tryz.underlying9 nm (.agg #[.int .i64 v, .bool true])
   have HS7 := Aside0.mk hs7
   have HG7 := Aside0.mk hg7
   clear hs7 hg7
   go_wp2_with fail
   go_region
   all_goals
    replace HC := Aside0.mk (ints_kept (fun a v h => cells_map (show StrMap (World.drew wr) mp (menc encC f2) from HF.out.vars) HG7.out a v h) (Kd.C_below HC.out (below_drew1 (Below.refl _ _))))
    replace HF := Aside0.mk ((HF.out.below' (below_drew1 (Below.refl _ _))).stored (show StrMap w7 mp (menc encC (mupd f2 nm (v, true))) from (menc_mupd encC f2 nm (v, true)) ▸ HS7.out) HG7.out)
    replace HT := Aside0.mk (HT.out.drew.trans (Turned.of_grown (S := (fun b => b = g ∨ b = ma.block ∨ b = mp)) HG7.out (by rintro k ⟨⟩; exact .inr (.inr rfl))))
    replace BX := Aside0.mk (blk_put_far (blk_drew BX.out) HG7.out NXM.out)
    clear hmu x2 cx_0 tx0 nx0
    go_wp2_with fail
    go_roundg (ins.length - (kk + 1))
    case measure => omega
    case rel => exact ⟨kk + 1, mupd f2 nm (v, true), by omega, by omega, by go_num, HF, HT, BX, HC, HS1⟩
  ·obtain rfl : kk = ins.length := by omega
   have HFE := Aside0.mk (show f2 = setAll x.params ins (fun _ => none) by have h := HS.out; rw [List.drop_length, List.drop_of_length_le (by omega)] at h; rw [← h]; rfl)
   clear HS hlt hkk hgk HC
   rw [← HFE.out] at HRN HRS
   have cx_5 := (blk_cell BX.out 5).trans rfl
   go_wp2_with fail
   clear cx_5
   refine (HDO.out gf mp f2 m cn _ xA5 xc5 HF.out xG5.out).mono ?_
   intro e w9 hp
   unfold DoPost at hp
   rcases hr : doL I l N fb x.body f2 m cn with ⟨m2, cn2, _ | f3⟩
   ·rw [hr] at hp
    obtain ⟨⟨rfl, hR9⟩, ht9⟩ := hp
    have HRE := Aside0.mk (HRN.out m2 cn2 hr)
    have HR9 := Aside0.mk hR9
    have HT9 := Aside0.mk (T3_fresh (HT.out.trans ht9) LM2.out)
    clear hr hR9 ht9 HF HT BX HRN HRS HDO
    go_wp2_with fail
    exact ⟨rfl, inPost_trap HRE.out HR9.out HT9.out⟩
   ·rw [hr] at hp
    obtain ⟨⟨rfl, hF9⟩, ht9⟩ := hp
    have HRE := Aside0.mk (HRS.out m2 cn2 f3 hr)
    replace HF := Aside0.mk hF9
    replace HT := Aside0.mk (HT.out.trans ht9)
    replace BX := Aside0.mk (ht9.blk BX.out (fun e => e.elim NX.out.1 (fun e => e.elim NX.out.2 NXM.out)))
    clear hr hF9 ht9 HRN HRS HDO
    have cx_1 := (blk_cell BX.out 1).trans rfl
    have HU := Aside0.mk Tryz.underlying49
    have HW := Aside0.mk (Below.refl w9.heap.size w9)
    have HRW := Aside0.mk (Kd.R_nil (Kd.int .i64) 2 w9 w9.heap.size (fun _ => True))
    have hrm : x.results.length ≤ 8796093022208 := HRF.out
    go_wp2_with fail
    clear cx_1
    go_loopg [12, 47] x.results.length (fun gg s12 s47 wr => ∃ (kk : Nat) (v5 : Value) (vs : List Int), kk ≤ x.results.length ∧ x.results.length - kk ≤ gg ∧ s47 = .int .i64 kk ∧ s12 = v5 ∧ Aside0 (Below w9.heap.size w9 wr) ∧ Aside0 ((Kd.int .i64).R 2 wr w9.heap.size (fun _ => True) v5 vs) ∧ Aside0 (vs.length = kk) ∧ Aside0 (outP vs (outsV f3 (x.results.drop kk)) = outsV f3 x.results))
    case atStart => exact ⟨0, _, [], Nat.zero_le _, by omega, rfl, rfl, HW, HRW, ⟨rfl⟩, ⟨outP_start _⟩⟩
    case round =>
     clear HW HRW
     obtain ⟨kk, v5, vs, hkk, hgk, rfl, rfl, HW, HRW, HVL, HP⟩ := hrel
     obtain ⟨A6, c6, rfl⟩ := Kd.R_slice HRW.out
     by_cases hlt : kk < x.results.length
     ·have hltz : (kk : Int) < (x.results.length : Int) := by omega
      have HP1 := Aside0.mk (show outP vs (outsV f3 (x.results.getD kk ⟨#[]⟩ :: x.results.drop (kk + 1))) = outsV f3 x.results by rw [← drop_getD x.results kk hlt ⟨#[]⟩]; exact HP.out)
      clear HP
      have HFW := Aside0.mk (HF.out.below' HW.out)
      obtain ⟨tad, tcs, rfl, _, tK, tcc⟩ := Kd.C_get xG1.out (⟨#[]⟩ : ByteArray) (kk : Int) (by omega) (by omega)
      obtain rfl := tK
      have tx0 := (HFW.out.run.below.cell (World.block_lt_of_cell? w0 _ (tcc 0 _ rfl))).trans (tcc 0 _ rfl)
      simp only [show Kd.string.sz = 1 from rfl, Nat.mul_one, Nat.add_zero, Int.toNat_natCast] at tx0
      clear tcc
      try simp only [Int.toNat_natCast] at tx0
      generalize Ynm0 : x.results.getD kk (⟨#[]⟩ : ByteArray) = nm at tx0
      have Ynm := Aside0.mk Ynm0; clear Ynm0
      rw [Ynm.out] at HP1
      obtain ⟨cv, hcv⟩ : ∃ cv, vget f3 nm = cv := ⟨_, rfl⟩
      obtain ⟨v, on⟩ := cv
      have HLK := Aside0.mk (show (menc encC f3 nm).getD (.agg #[.int .i64 0, .bool false]) = .agg #[.int .i64 v, .bool on] by rw [getD_encC, hcv])
      have HCV := Aside0.mk hcv
      clear hcv
      have x2 := (blk_cell HFW.out.frm 2).trans rfl
      go_wp2_with (first | (at_lookup; refine look_str rfl _ _ 124 rfl 9 91 Tryz.underlying124 Tryz.underlying9 _ (zero_cell _) mp _ rfl HFW.out.vars nm rfl _ HLK.out ?_) | ((with_reducible refine gate_store (t := 91) (p := 15) rfl ?_); refine store_whole rfl rfl 91 _ _ rfl wr.heap.size _ 91 rfl (blk_new _ _) _ rfl rfl rfl (by simp [Value.oneCell']) ?_; intro w2 hb2 hg2; have HBA := Aside0.mk (below_as (Below.refl wr.heap.size wr) hg2); replace HW := Aside0.mk (below_step HW.out HBA.out); replace HRW := Aside0.mk (Kd.R_below HRW.out HBA.out); obtain ⟨gc, hq_⟩ : ∃ g_, g_ = wr.heap.size := ⟨_, rfl⟩; rw [← hq_] at hb2; rw [← hq_]; have BC := Aside0.mk hb2; clear hb2 hg2 hq_ HBA; have cc_0 := (blk_cell BC.out 0).trans rfl; have cc_1 := (blk_cell BC.out 1).trans rfl))
      clear x2 tx0 HFW HLK
      cases on with
      | false =>
       refine (must_f _).mono ?_
       rintro e w8 ⟨rfl, rfl⟩
       have HRE2 := Aside0.mk (show R = (m2, cn2, none) by rw [HRE.out, ← HP1.out, outP_none HCV.out])
       go_wp2_with fail
       exact ⟨rfl, inPost_trap HRE2.out (HF.out.below' HW.out).run (T3_fresh (HT.out.step HW.out) LM2.out)⟩
      | true =>
       refine (must_t _).mono ?_
       rintro e w8 ⟨rfl, rfl⟩
       have HP2 := Aside0.mk (show outP (vs ++ [v]) (outsV f3 (x.results.drop (kk + 1))) = outsV f3 x.results by rw [← HP1.out, outP_some HCV.out])
       have HVL1 := Aside0.mk (show (vs ++ [v]).length = kk + 1 by have := HVL.out; simp; omega)
       clear HP1 HCV
       go_wp2_with (at_builtin; refine Kd.R_append (Kd.int .i64) (w0 := w9) w9.heap.size rfl (.tmp 60) (.tmp 63) 49 2 (.int .i64 0) 8 rfl HU.out info_int64 rfl (by decide) (by omega) (.slice A6 vs.length c6) vs v [.int .i64 v] (fun _ => True) (fun _ => False) rfl rfl (show (Kd.int .i64).M _ _ _ v [.int .i64 v] from rfl) (fun k hk => hk.elim) (fun _ _ => trivial) HRW.out HW.out HW.out.size (by have := HVL.out; omega) ?_; intro v1 w7 hr7 hb7 hg7 hat7; have HRW7 := Aside0.mk hr7; have HW7 := Aside0.mk hb7; clear hr7 hg7 hat7 hb7 HRW HW)
       go_roundg (x.results.length - (kk + 1))
       case measure => omega
       case rel => exact ⟨kk + 1, v1, vs ++ [v], by omega, by omega, by go_num, rfl, HW7, HRW7, HVL1, HP2⟩
     ·obtain rfl : kk = x.results.length := by omega
      obtain ⟨A7, c7, hv6, _, hC6⟩ := Kd.R_reads HRW.out
      injection hv6 with hv7 hv8 hv9
      subst hv7
      subst hv9
      have HC6 := Aside0.mk hC6
      have HFR := Aside0.mk (show ∀ ad, A6 = some ad → w.heap.size ≤ ad.block from fun ad e => by subst e; have h1 := Kd.R_base HRW.out ad.block rfl; have h2 := HT.out.size; omega)
      have HRE2 := Aside0.mk (show R = (m2, cn2, some vs) by rw [HRE.out, ← HP.out, List.drop_length, outP_end])
      clear hC6 hv8 HRW HP HRE
      go_wp2_with fail
      go_ret
      exact inPost_done HRE2.out (HF.out.below' HW.out).run (T3_fresh (HT.out.step HW.out) LM2.out) HC6.out HFR.out
theorem instF_says (w0 : World) (g : Nat) (ma : Addr) (A : Option Addr) (c : Nat) (l : List FF) (N : Nat) (tr : Bool) (hok : flatOk l = true) (hsm : FlatSmall l) (hC : kFF.C w0 A l.length l) (hfw : ∀ f ∈ l, f.params.length ≤ 8796093022208) (hfr : ∀ f ∈ l, f.results.length ≤ 8796093022208) : ∀ d : Nat, d ≤ l.length → ISays w0 g ma A c l N tr d (instF l N d)
 | 0, _ => fun fn _ _ _ _ _ _ _ _ h0 h1 => absurd h0 (by omega)
 | d + 1, hd => instant_step w0 g ma A c l N tr (instF l N d) d (instF_says w0 g ma A c l N tr hok hsm hC hfw hfr d (by omega)) (instF_length l N d) hok hsm hC hfw hfr (by omega)
end Go.Proofs.YticndoihkfbpoaaGreatDoor
