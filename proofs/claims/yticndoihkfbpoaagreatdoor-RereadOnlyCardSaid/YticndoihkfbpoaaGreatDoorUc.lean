/- Package reread: the parser's own small readers: fail, takes, next, want, numeral, number, name, begin, cell. -/
import Derived.WalkLawsBesides
import Derived.Lib.ParseIntBTie
import Derived.Sort.Grow
import Derived.Test.YticndoihkfbpoaaGreatDoorUb
import Derived.Test.YticndoihkfbpoaaGreatDoorUt
import Derived.Test.YticndoihkfbpoaaGreatDoorShelf
namespace Go.Proofs.YticndoihkfbpoaaGreatDoor
open Go Go.RowKit Go.Lib Go.Proofs.YticndoihkfbpoaaGreatDoorW.PrintWords Go.Proofs.YticndoihkfbpoaaGreatDoor.PScope
set_option maxRecDepth 100000
set_option linter.unusedSimpArgs false
set_option linter.unusedVariables false
structure LaidR (w : World) : Prop where
 syn : ∃ ev, w.cell? ⟨3, 0, none⟩ = some ev ∧ (ev = .nilIface ∨ ∃ te pe, ev = .iface te pe)
 rng : ∃ ev, w.cell? ⟨4, 0, none⟩ = some ev ∧ (ev = .nilIface ∨ ∃ te pe, ev = .iface te pe)
 tab : Lib.TabIs Tryz.prog w "internal/strconv.uint64pow10" .u64 Lib.pow10Tab
 utf : Lib.Utf8Tabs 0 1 w
theorem gPow : Tryz.prog.globalNamed "internal/strconv.uint64pow10" = some 5 := by kernel_rfl
theorem tab_below' {n : String} {g : Nat} {k : IntKind} {zs : List Int} {w w' : World} (hg : Tryz.prog.globalNamed n = some g) (h : Lib.TabIs Tryz.prog w n k zs) (hb : Below w.heap.size w w') : Lib.TabIs Tryz.prog w' n k zs := by
 unfold Lib.TabIs World.var? at h ⊢
 rw [hg] at h ⊢
 simp only [Option.bind_some] at h ⊢
 have hlt : g < w.heap.size := by
  rcases Nat.lt_or_ge g w.heap.size with h' | h'
  ·exact h'
  ·rw [Array.getElem?_eq_none h'] at h; cases h
 rw [hb.block g hlt]
 exact h
theorem LaidR.below {w W : World} (h : LaidR w) (hb : Below w.heap.size w W) : LaidR W := by
 obtain ⟨⟨e1, a1, b1⟩, ⟨e2, a2, b2⟩, h3, h4⟩ := h
 exact ⟨⟨e1, pw_cell_below hb a1, b1⟩, ⟨e2, pw_cell_below hb a2, b2⟩, tab_below' gPow h3 hb,
  fun c hc => pw_cell_below hb (h4.1 c hc), fun i hi => ⟨pw_cell_below hb (h4.2 i hi).1, pw_cell_below hb (h4.2 i hi).2⟩⟩
structure PS (w0 w : World) (g : Nat) (ws : List ByteArray) (k : Nat) (o : Int) : Prop where
 st : IsS97 w0 w g ws (k : Int) o
 be : Below w0.heap.size w0 w
 le : k ≤ ws.length
 few : ws.length ≤ 1048577
 wee : ∀ x ∈ ws, x.size ≤ 1048576
theorem PS.below {w0 w w1 : World} {g : Nat} {ws : List ByteArray} {k : Nat} {o : Int} (h : PS w0 w g ws k o) (hb : Below w.heap.size w w1) : PS w0 w1 g ws k o :=
 ⟨IsS97.below h.st hb, below_step h.be hb, h.le, h.few, h.wee⟩
theorem PS.alloc {w0 w : World} {g : Nat} {ws : List ByteArray} {k : Nat} {o : Int} (h : PS w0 w g ws k o) (ob : Obj) : PS w0 (w.alloc ob) g ws k o := h.below (below_alloc (Below.refl _ _) ob)
theorem PS.as {w0 w w1 : World} {g : Nat} {ws : List ByteArray} {k : Nat} {o : Int} {o' : Obj} (h : PS w0 w g ws k o) (hg : (w.alloc o').grownBy w1 (some w.heap.size)) : PS w0 w1 g ws k o := h.below (below_as (Below.refl _ _) hg)
theorem PS.drew {w0 w : World} {g : Nat} {ws : List ByteArray} {k : Nat} {o : Int} (h : PS w0 w g ws k o) : PS w0 w.drew g ws k o := h.below (below_drew1 (Below.refl _ _))
theorem PS.lt {w0 w : World} {g : Nat} {ws : List ByteArray} {k : Nat} {o : Int} (h : PS w0 w g ws k o) : g < w.heap.size := by
 obtain ⟨_, _, hb, _⟩ := h.st
 exact blk_lt hb
theorem PS.laid {w0 w : World} {g : Nat} {ws : List ByteArray} {k : Nat} {o : Int} (h : PS w0 w g ws k o) (hL : LaidR w0) : LaidR w := hL.below h.be
abbrev fltV (f : Flt) : Value := .iface 61 (.agg #[.int .i64 f.1, .int .i64 (f.2 : Int), .int .i64 0])
abbrev fltE (f : Flt) : Ending := .panicked [{ v := fltV f, recovered := false }]
section
variable {w0 w : World} {g : Nat} {ws : List ByteArray} {k : Nat} {o : Int}
theorem fail_calls (h : PS w0 w g ws k o) (er : Int) :
  Calls Tryz.prog 119 #[.pointer (some ⟨g, 0, none⟩), .int .i64 er] w fun e w' => e = fltE (er, k + 1) ∧ w' = w := by
 obtain ⟨A0, c0, hb, hg, hC⟩ := h.st
 have h1 := cellS97_1 hb
 have hw : wrap64 ((k : Int) + 1) = (k : Int) + 1 := by have := h.le; have := h.few; unfold wrap64; omega
 clear hC hg hb
 go_enter Tryz.func119, Tryz.ntmps119
 go_wp2
 exact ⟨rfl, by simp [fltE, fltV], rfl⟩
theorem rdOf_nat (ws : List ByteArray) (k : Nat) : rdOf ByteArray.empty ws (k : Int) = ws.getD k es := by
 unfold rdOf; rw [Int.toNat_natCast]; rfl
theorem takes_f (s : ByteArray) (hk : k ≤ ws.length) (hf : ws.length ≤ 1048577) :
  reread_parser_takes.f ws (k : Int) o s = some (takesR ws s k, if takesR ws s k = true then ((k + 1 : Nat) : Int) else (k : Int), o) := by
 unfold reread_parser_takes.f takesR
 by_cases e : k = ws.length
 ·subst e; simp
 ·rw [if_neg (by omega), if_pos (by omega), if_pos (by omega), rdOf_nat]
  have hlt : k < ws.length := by omega
  by_cases e2 : ws.getD k es = s
  ·rw [if_pos (by rw [e2])]
   have hw : wrap64 ((k : Int) + 1) = ((k + 1 : Nat) : Int) := by unfold wrap64; omega
   rw [hw, decide_eq_true hlt, decide_eq_true e2]; rfl
  ·rw [if_neg (fun h => e2 (toList_inj h))]
   rw [decide_eq_true hlt, decide_eq_false e2]; rfl
theorem takes_calls (h : PS w0 w g ws k o) (s : ByteArray) :
  Calls Tryz.prog 118 #[.pointer (some ⟨g, 0, none⟩), .string s] w fun e w' => e = .returned (.bool (takesR ws s k)) ∧ PS w0 w' g ws (if takesR ws s k = true then k + 1 else k) o ∧ KeepBut w w' g none := by
 refine (reread_parser_takes.calls g ws k o s _ _ _ w0 w h.st h.be (takes_f s h.le h.few)).mono ?_
 rintro e w' ⟨rfl, hI, hB, hK⟩
 refine ⟨rfl, ⟨?_, hB, ?_, h.few, h.wee⟩, hK⟩
 ·cases ht : takesR ws s k <;> rw [ht] at hI
  ·exact hI
  ·exact hI
 ·have := h.le
  cases ht : takesR ws s k
  ·rw [if_neg Bool.false_ne_true]; exact this
  ·rw [if_pos rfl]
   have h2 : (decide (k < ws.length) && decide (ws.getD k es = s)) = true := ht
   rw [Bool.and_eq_true] at h2
   exact of_decide_eq_true h2.1
theorem next_calls (h : PS w0 w g ws k o) :
  Calls Tryz.prog 120 #[.pointer (some ⟨g, 0, none⟩)] w fun e w' => e = .returned (.string (nextR ws k)) ∧ PS w0 w' g ws k o ∧ KeepBut w w' g none := by
 have hf : reread_parser_next.f ws (k : Int) o = some (nextR ws k, (k : Int), o) := by
  unfold reread_parser_next.f nextR
  have := h.le
  by_cases e : k = ws.length
  ·subst e; simp [es]
  ·rw [if_neg (by omega), if_pos (by omega), if_pos (by omega), rdOf_nat]
 refine (reread_parser_next.calls g ws k o _ _ _ w0 w h.st h.be hf).mono ?_
 rintro e w' ⟨rfl, hI, hB, hK⟩
 exact ⟨rfl, ⟨hI, hB, h.le, h.few, h.wee⟩, hK⟩
def POut0 (w0 w : World) (g : Nat) (ws : List ByteArray) (o : Int) (r : Except Flt Nat) (e : Ending) (w' : World) : Prop :=
 match r with
 | .error f => e = fltE f ∧ Below w0.heap.size w0 w'
 | .ok k' => e = .returned (.tuple #[]) ∧ PS w0 w' g ws k' o ∧ KeepBut w w' g none
theorem KeepBut.cell' {w w1 : World} {g : Nat} {a : Addr} {v : Value} (hk : KeepBut w w1 g none) (hc : w.cell? a = some v) (hn : a.block ≠ g) : w1.cell? a = some v := keep_cell hk hc hn
theorem want_calls (h : PS w0 w g ws k o) (A : Option Addr) (c : Nat) (l : List ByteArray) (hC : Kd.string.C w A l.length l) (hA : ∀ ad, A = some ad → 0 < l.length → ad.block ≠ g) :
  Calls Tryz.prog 76 #[.pointer (some ⟨g, 0, none⟩), .slice A l.length c] w (POut0 w0 w g ws o (wantsR ws l k)) := by
 have HP := Aside0.mk h
 have HC := Aside0.mk hC
 have HA := Aside0.mk hA
 have HK := Aside0.mk (KeepBut.refl w g none)
 obtain ⟨R, hR⟩ : ∃ R, wantsR ws l k = R := ⟨_, rfl⟩
 rw [hR]
 have HR := Aside0.mk hR
 have hl : l.length ≤ 9223372036854775807 := hC.2.1
 clear h hC hA hR
 go_enter Tryz.func76, Tryz.ntmps76
 go_wp2_with fail
 go_loopg [8] l.length (fun gg s_ wr => ∃ kk kp : Nat, kk ≤ l.length ∧ l.length - kk ≤ gg ∧ s_ = .int .i64 kk ∧ Aside0 (PS w0 wr g ws kp o) ∧ Aside0 (KeepBut w wr g none) ∧ Aside0 (wantsR ws (l.drop kk) kp = R))
 case atStart => exact ⟨0, k, Nat.zero_le _, by omega, rfl, HP, HK, ⟨by simpa using HR.out⟩⟩
 case round =>
  clear HP HK HR
  obtain ⟨kk, kp, hkk, hg, rfl, HP, HK, HR⟩ := hrel
  by_cases hlt : kk < l.length
  ·have hltz : (kk : Int) < (l.length : Int) := by omega
   obtain ⟨ad, cs, rfl, _, eK, ecc⟩ := Kd.C_get HC.out (⟨#[]⟩ : ByteArray) (kk : Int) (by omega) (by omega)
   obtain rfl := eK
   have x0 := KeepBut.cell' HK.out (ecc 0 _ rfl) (by rw [show (ad.add ((kk : Int).toNat * Kd.string.sz + 0)).block = ad.block from by unfold Addr.add; split <;> rfl]; exact HA.out ad rfl (by omega))
   clear ecc
   simp only [show Kd.string.sz = 1 from rfl, Nat.mul_one, Nat.add_zero, Int.toNat_natCast] at x0
   have hdrop : l.drop kk = l.getD kk ⟨#[]⟩ :: l.drop (kk + 1) := by
    rw [List.drop_eq_getElem_cons hlt, List.getD_eq_getElem?_getD, List.getElem?_eq_getElem hlt]; rfl
   have hr := HR.out
   rw [hdrop] at hr
   clear HR
   generalize l.getD kk ⟨#[]⟩ = s at x0 hr
   clear hdrop
   have HR := Aside0.mk hr
   clear hr
   go_wp2_with fail
   refine (takes_calls HP.out s).mono ?_
   rintro e w1 ⟨rfl, hp, hk1⟩
   have HK1 := Aside0.mk (KeepBut.trans HK.out hk1 (.inl rfl))
   clear hk1 HK HP
   cases ht : takesR ws s kp with
   | true =>
    rw [ht] at hp
    have HP := Aside0.mk hp
    clear hp
    have HR2 : Aside0 (wantsR ws (l.drop (kk + 1)) (kp + 1) = R) := by
     have hr := HR.out
     simp only [wantsR, wantR, ht, if_true] at hr
     exact ⟨hr⟩
    go_wp2_with fail
    go_roundg (l.length - (kk + 1))
    case measure => omega
    case rel => exact ⟨kk + 1, kp + 1, by omega, by omega, by go_num, HP, HK1, HR2⟩
   | false =>
    rw [ht] at hp
    have hr := HR.out
    simp only [wantsR, wantR, ht, if_neg Bool.false_ne_true] at hr
    have HR2 := Aside0.mk (show R = .error (3, kp + 1) from hr.symm)
    clear HR hr
    go_wp2_with fail
    refine (fail_calls hp 3).mono ?_
    rintro e w2 ⟨rfl, rfl⟩
    go_wp2_with fail
    exact ⟨rfl, by rw [HR2.out]; exact ⟨rfl, hp.be⟩⟩
  ·have hltz : ¬ (kk : Int) < (l.length : Int) := by omega
   obtain rfl : kk = l.length := by omega
   have hr := HR.out
   rw [List.drop_length] at hr
   have HR2 := Aside0.mk (show R = .ok kp from hr.symm)
   clear hr HR
   go_wp2_with fail
   go_end0
   exact (by rw [HR2.out]; exact ⟨rfl, HP.out, HK.out⟩)
theorem below_grow {B : Nat} {w W : World} (h : Below B w W) (hB : B ≤ W.heap.size) (ob : Array Obj) : Below B w (Go.Sort.grow W ob) :=
 h.trans ⟨rfl, rfl, rfl, by simp [Go.Sort.grow], fun k hk => by simp only [Go.Sort.grow]; rw [Array.getElem?_append_left (by omega)]⟩
theorem numeral_calls (s : ByteArray) (w : World) (hL : LaidR w) (hs : s.size ≤ 1048576) :
  Calls Tryz.prog 123 #[.string s] w fun e w' => (∃ n, e = .returned (.tuple #[.int .i64 n, .bool (numP s).isSome]) ∧ ∀ v, numP s = some v → n = v) ∧ Below w.heap.size w w' := by
 have HL := Aside0.mk hL
 clear hL
 rcases hq : parseIntB 64 s.data.toList with v | _ | _
 rotate_left
 focus
  have HN := Aside0.mk (show numP s = none by unfold numP; rw [hq])
  have HQ := Aside0.mk hq
  clear hq
  go_enter Tryz.func123, Tryz.ntmps123
  go_wp2_with fail
  obtain ⟨ev, hv, hev⟩ := HL.out.syn
  refine (Tryz.strconv_ParseInt_10_at64_syntax s (by omega) HQ.out ev w hv hev).mono ?_
  rintro e w1 ⟨N, rfl, _, _, hb⟩
  clear hv hev
  have HB := Aside0.mk hb
  clear hb
  go_wp2_with fail
  go_ret2
  exact ⟨⟨0, by rw [HN.out]; rfl, fun v hv => by rw [HN.out] at hv; cases hv⟩, HB.out⟩
 focus
  have HN := Aside0.mk (show numP s = none by unfold numP; rw [hq])
  have HQ := Aside0.mk hq
  clear hq
  go_enter Tryz.func123, Tryz.ntmps123
  go_wp2_with fail
  obtain ⟨ev, hv, hev⟩ := HL.out.rng
  refine (Tryz.strconv_ParseInt_10_at64_range s (by omega) HQ.out ev w hv hev).mono ?_
  rintro e w1 ⟨N, rfl, _, _, hb⟩
  clear hv hev
  have HB := Aside0.mk hb
  clear hb
  go_wp2_with fail
  go_ret2
  exact ⟨⟨_, by rw [HN.out]; rfl, fun v hv => by rw [HN.out] at hv; cases hv⟩, HB.out⟩
 focus
  obtain ⟨b0, b1⟩ := parseIntB_bounds hq
  have HQ := Aside0.mk hq
  have hN : numP s = if 0 ≤ v ∧ (⟨(Go.Lib.itoa v).toArray⟩ : ByteArray) = s then some v else none := by unfold numP; rw [hq]
  clear hq
  have hPI := fun W => (Tryz.strconv_ParseInt_10_at64_ok s (by omega) v HQ.out W).mono (R' := fun e w' => e = .returned (.tuple #[.int .i64 v, .nilIface]) ∧ Below W.heap.size W w') (fun e w' ⟨he, hw⟩ => ⟨he, by
   rcases hw with rfl | ⟨t, rfl⟩
   ·exact Below.refl _ _
   ·exact bytes_below (Below.refl _ _) (Nat.le_refl _) _ _⟩)
  by_cases h0 : 0 ≤ v
  ·have d0 : decide (v ≥ 0) = true := decide_eq_true h0
   cases hc : (Go.Lib.itoa v == s.toList) with
   | true =>
    have hc2 : (⟨(Go.Lib.itoa v).toArray⟩ : ByteArray) = s := toList_inj (by have := eq_of_beq hc; simpa using this)
    have HN := Aside0.mk (show numP s = some v by rw [hN, if_pos ⟨h0, hc2⟩])
    clear hN hc2
    go_enter Tryz.func123, Tryz.ntmps123
    go_wp2_with fail
    refine (hPI _).mono ?_
    rintro e w1 ⟨rfl, hb⟩
    have HB := Aside0.mk hb
    clear hb
    go_wp2_with fail
    refine (Tryz.strconv_FormatInt_10 v (by omega) (by omega) w1 (HL.out.below HB.out).tab).mono ?_
    rintro e w2 ⟨rfl, k2, os2, rfl⟩
    have HB2 := Aside0.mk (below_grow (pw_below_drewN HB.out k2) HB.out.size os2)
    generalize Go.Sort.grow (w1.drewN k2) os2 = w2 at HB2 ⊢
    go_wp2_with fail
    go_ret2
    exact ⟨⟨v, by rw [HN.out]; rfl, fun v' hv => by rw [HN.out] at hv; cases hv; rfl⟩, HB2.out⟩
   | false =>
    have hc2 : ¬ (⟨(Go.Lib.itoa v).toArray⟩ : ByteArray) = s := fun e => by rw [← e] at hc; simp at hc
    have HN := Aside0.mk (show numP s = none by rw [hN, if_neg (fun h => hc2 h.2)])
    clear hN hc2
    go_enter Tryz.func123, Tryz.ntmps123
    go_wp2_with fail
    refine (hPI _).mono ?_
    rintro e w1 ⟨rfl, hb⟩
    have HB := Aside0.mk hb
    clear hb
    go_wp2_with fail
    refine (Tryz.strconv_FormatInt_10 v (by omega) (by omega) w1 (HL.out.below HB.out).tab).mono ?_
    rintro e w2 ⟨rfl, k2, os2, rfl⟩
    have HB2 := Aside0.mk (below_grow (pw_below_drewN HB.out k2) HB.out.size os2)
    generalize Go.Sort.grow (w1.drewN k2) os2 = w2 at HB2 ⊢
    go_wp2_with fail
    go_ret2
    exact ⟨⟨v, by rw [HN.out]; rfl, fun v' hv => by rw [HN.out] at hv; cases hv⟩, HB2.out⟩
  ·have d0 : decide (v ≥ 0) = false := decide_eq_false h0
   have HN := Aside0.mk (show numP s = none by rw [hN, if_neg (fun h => h0 h.1)])
   clear hN
   go_enter Tryz.func123, Tryz.ntmps123
   go_wp2_with fail
   refine (hPI _).mono ?_
   rintro e w1 ⟨rfl, hb⟩
   have HB := Aside0.mk hb
   clear hb
   go_wp2_with fail
   go_ret2
   exact ⟨⟨v, by rw [HN.out]; rfl, fun v' hv => by rw [HN.out] at hv; cases hv⟩, HB.out⟩
def POut {α : Type} (ret : World → α → Value → Prop) (w0 w : World) (g : Nat) (ws : List ByteArray) (o : Int) (r : Except Flt (α × Nat)) (e : Ending) (w' : World) : Prop :=
 match r with
 | .error f => e = fltE f ∧ Below w0.heap.size w0 w'
 | .ok x => ∃ u, e = .returned u ∧ ret w' x.1 u ∧ PS w0 w' g ws x.2 o ∧ KeepBut w w' g none
abbrev retI : World → Int → Value → Prop := fun _ n u => u = .int .i64 n
abbrev retS : World → ByteArray → Value → Prop := fun _ n u => u = .string n
theorem next_wee (h : PS w0 w g ws k o) : (nextR ws k).size ≤ 1048576 := by
 unfold nextR
 rw [List.getD_eq_getElem?_getD]
 cases e : ws[k]? with
 | none => exact (by decide : es.size ≤ 1048576)
 | some x => exact h.wee x (List.mem_of_getElem? e)
theorem next_lt (h : PS w0 w g ws k o) (hn : nextR ws k ≠ es) : k < ws.length := by
 rcases Nat.lt_or_ge k ws.length with h1 | h1
 ·exact h1
 ·exact absurd (by unfold nextR; rw [List.getD_eq_getElem?_getD, List.getElem?_eq_none h1]; rfl) hn
theorem numP_es : numP es = none := by decide +kernel
theorem nameP_es : nameP es = false := by decide +kernel
theorem PS.cells (h : PS w0 w g ws k o) : w.cell? ⟨g, 1, none⟩ = some (.int .i64 (k : Int)) ∧ w.cell? ⟨g, 2, none⟩ = some (.int .i64 o) ∧ w.frozen? ⟨g, 1, none⟩ = false ∧ w.frozen? ⟨g, 2, none⟩ = false := by
 obtain ⟨A0, c0, hb, hg, hC⟩ := h.st
 exact ⟨cellS97_1 hb, cellS97_2 hb, blk_frozen hb 1, blk_frozen hb 2⟩
theorem PS.ge (h : PS w0 w g ws k o) : w0.heap.size ≤ g := by obtain ⟨_, _, _, hg, _⟩ := h.st; exact hg
theorem PS.at_ (h : PS w0 w g ws k o) (k' : Nat) (hk : k' ≤ ws.length) : PS w0 (w.setCell ⟨g, 1, none⟩ (.int .i64 (k' : Int))) g ws k' o :=
 ⟨IsS97.set_1 h.st _, below_set h.be h.ge, hk, h.few, h.wee⟩
theorem PS.open_ (h : PS w0 w g ws k o) (o' : Int) : PS w0 (w.setCell ⟨g, 2, none⟩ (.int .i64 o')) g ws k o' :=
 ⟨IsS97.set_2 h.st _, below_set h.be h.ge, h.le, h.few, h.wee⟩
theorem wrap_at (h : PS w0 w g ws k o) : wrap64 ((k : Int) + 1) = ((k + 1 : Nat) : Int) := by have := h.le; have := h.few; unfold wrap64; omega
theorem number_calls (h : PS w0 w g ws k o) (hL : LaidR w0) :
  Calls Tryz.prog 79 #[.pointer (some ⟨g, 0, none⟩)] w (POut retI w0 w g ws o (numberR ws k)) := by
 have HP := Aside0.mk h
 have HL := Aside0.mk hL
 have hz := next_wee h
 have hnl := next_lt h
 obtain ⟨R, hR⟩ : ∃ R, numberR ws k = R := ⟨_, rfl⟩
 rw [hR]
 unfold numberR at hR
 have HR := Aside0.mk hR
 have HN := Aside0.mk hnl
 clear h hL hR hnl
 go_enter Tryz.func79, Tryz.ntmps79
 go_wp2_with fail
 refine (next_calls HP.out).mono ?_
 rintro e w1 ⟨rfl, hp, hk1⟩
 have HP1 := Aside0.mk hp
 have HK1 := Aside0.mk hk1
 clear hp hk1 HP
 generalize nextR ws k = s at HR hz HN ⊢
 go_wp2_with fail
 refine (numeral_calls s w1 (HP1.out.laid HL.out) hz).mono ?_
 rintro e w2 ⟨⟨n, rfl, hn⟩, hb⟩
 have HP2 := Aside0.mk (HP1.out.below hb)
 have HK2 := Aside0.mk (KeepBut.trans HK1.out (KeepBut.of_below hb g none) (.inl rfl))
 clear hb HP1 HK1
 cases hq : numP s with
 | none =>
  have HR2 := Aside0.mk (show R = .error (3, k + 1) by have := HR.out; rw [hq] at this; exact this.symm)
  clear HR hn
  go_wp2_with fail
  refine (fail_calls HP2.out 3).mono ?_
  rintro e w3 ⟨rfl, rfl⟩
  go_wp2_with fail
  exact ⟨rfl, by rw [HR2.out]; exact ⟨rfl, HP2.out.be⟩⟩
 | some v =>
  obtain rfl := hn v hq
  have HR2 := Aside0.mk (show R = .ok (n, k + 1) by have := HR.out; rw [hq] at this; exact this.symm)
  have hlt : k < ws.length := HN.out (fun e => by rw [e, numP_es] at hq; cases hq)
  clear HR hn hq
  obtain ⟨x1, x2, y1, y2⟩ := HP2.out.cells
  have hw := wrap_at HP2.out
  go_wp2_with fail
  go_ret
  exact (by rw [HR2.out]; exact ⟨_, rfl, rfl, by rw [show ((k : Int) + 1) = ((k + 1 : Nat) : Int) from by omega]; exact HP2.out.at_ (k + 1) hlt, KeepBut.set_ HK2.out _ _⟩)
theorem lit_cells (w : World) (l : List ByteArray) (e : Nat) : ∀ j, j < l.length → (w.alloc (.cells (encs Value.string l).toArray e)).cell? ⟨w.heap.size, 0 + j, none⟩ = some (.string (l.getD j ByteArray.empty)) := by
 intro j hj
 rw [Nat.zero_add]
 refine (blk_cell (blk_new w _) j).trans ?_
 have h := encs_get (enc := Value.string) (d := ByteArray.empty) l j hj
 simpa using h
theorem lit_C (w : World) (l : List ByteArray) (e : Nat) (hl : l.length ≤ 9223372036854775807) : Kd.string.C (w.alloc (.cells (encs Value.string l).toArray e)) (some ⟨w.heap.size, 0, none⟩) l.length l := by
 refine ⟨rfl, hl, fun _ => ⟨_, rfl, fun j p hj => ⟨[.string p], rfl, rfl, fun i u hu => ?_⟩⟩⟩
 have hjl := (List.getElem?_eq_some_iff.1 hj).1
 have hi : i = 0 := by
  have := (List.getElem?_eq_some_iff.1 hu).1
  simpa using this
 subst hi
 have hu2 : u = .string p := by simpa using hu.symm
 subst hu2
 have h := lit_cells w l e j hjl
 rw [List.getD_eq_getElem?_getD, hj, Nat.zero_add] at h
 rw [show j * Kd.string.sz + 0 = j from Nat.mul_one j, Go.Proofs.YticndoihkfbpoaaGreatDoorW.PrintWords.add_plain]
 exact h
theorem containsS_key (s : ByteArray) : Lib.containsS keyL s = inL keyL s := by
 unfold inL
 cases h : keyL.any (fun x => decide (x = s)) with
 | true =>
  rw [List.any_eq_true] at h
  obtain ⟨x, hx, e⟩ := h
  obtain rfl := of_decide_eq_true e
  exact (Lib.containsS_iff _ _).2 hx
 | false =>
  cases hc : Lib.containsS keyL s with
  | false => rfl
  | true =>
   have := (Lib.containsS_iff _ _).1 hc
   rw [List.any_eq_false] at h
   exact absurd (decide_eq_true (rfl : s = s)) (h s this)
theorem name_calls (h : PS w0 w g ws k o) :
  Calls Tryz.prog 78 #[.pointer (some ⟨g, 0, none⟩)] w (POut retS w0 w g ws o (nameR ws k)) := by
 have HP := Aside0.mk h
 have hnl := next_lt h
 obtain ⟨R, hR⟩ : ∃ R, nameR ws k = R := ⟨_, rfl⟩
 rw [hR]
 unfold nameR at hR
 have HR := Aside0.mk hR
 have HN := Aside0.mk hnl
 clear h hR hnl
 go_enter Tryz.func78, Tryz.ntmps78
 go_wp2_with fail
 refine (next_calls HP.out).mono ?_
 rintro e w1 ⟨rfl, hp, hk1⟩
 have HP1 := Aside0.mk hp
 have HK1 := Aside0.mk hk1
 clear hp hk1 HP
 generalize nextR ws k = s at HR HN ⊢
 go_wp2_with fail
 refine (isName_calls s w1).mono ?_
 rintro e w2 ⟨rfl, hb⟩
 have HP2 := Aside0.mk (HP1.out.below hb)
 have HK2 := Aside0.mk (KeepBut.trans HK1.out (KeepBut.of_below hb g none) (.inl rfl))
 clear hb HP1 HK1
 have bad : ∀ (w3 : World) (hb : Below w2.heap.size w2 w3), R = .error (3, k + 1) → POut retS w0 w g ws o R (fltE (3, k + 1)) w3 := by
  intro w3 hb e
  rw [e]
  exact ⟨rfl, (HP2.out.below hb).be⟩
 have HBAD := Aside0.mk bad
 clear bad
 cases hq : isNameB s with
 | false =>
  have HR2 := Aside0.mk (show R = .error (3, k + 1) by have := HR.out; unfold nameP at this; rw [hq, Bool.false_and, if_neg Bool.false_ne_true] at this; exact this.symm)
  clear HR
  go_wp2_with fail
  refine (fail_calls HP2.out 3).mono ?_
  rintro e w3 ⟨rfl, rfl⟩
  go_wp2_with fail
  exact ⟨rfl, HBAD.out _ (Below.refl _ _) HR2.out⟩
 | true =>
  go_wp2_with fail
  refine (Tryz.slices_Contains_string w2.heap.size 0 9 9 keyL s _ (by decide) (by decide) (lit_cells w2 keyL 9)).mono ?_
  rintro e w3 ⟨rfl, rfl⟩
  rw [show keyL.take 9 = keyL from rfl, containsS_key]
  have HB3 := Aside0.mk (below_alloc (Below.refl w2.heap.size w2) (.cells (encs Value.string keyL).toArray 9))
  generalize w2.alloc (.cells (encs Value.string keyL).toArray 9) = w3 at HB3 ⊢
  cases hk : inL keyL s with
  | true =>
   have HR2 := Aside0.mk (show R = .error (3, k + 1) by have := HR.out; unfold nameP at this; rw [hq, hk, if_neg (by decide)] at this; exact this.symm)
   clear HR hk
   go_wp2_with fail
   refine (fail_calls (HP2.out.below HB3.out) 3).mono ?_
   rintro e w4 ⟨rfl, rfl⟩
   go_wp2_with fail
   exact ⟨rfl, HBAD.out _ HB3.out HR2.out⟩
  | false =>
   have HR2 := Aside0.mk (show R = .ok (s, k + 1) by have := HR.out; unfold nameP at this; rw [hq, hk, if_pos (by decide)] at this; exact this.symm)
   have hlt : k < ws.length := HN.out (fun e => by have h := nameP_es; unfold nameP at h; rw [← e, hq, hk] at h; cases h)
   clear HR hk
   have HP3 := Aside0.mk (HP2.out.below HB3.out)
   have HK3 := Aside0.mk (KeepBut.trans HK2.out (KeepBut.of_below HB3.out g none) (.inl rfl))
   clear HP2 HK2 HB3 HBAD
   obtain ⟨x1, x2, y1, y2⟩ := HP3.out.cells
   have hw := wrap_at HP3.out
   go_wp2_with fail
   go_ret
   exact (by rw [HR2.out]; exact ⟨_, rfl, rfl, by rw [show ((k : Int) + 1) = ((k + 1 : Nat) : Int) from by omega]; exact HP3.out.at_ (k + 1) hlt, KeepBut.set_ HK3.out _ _⟩)
theorem begin_calls (h : PS w0 w g ws k o) (h0 : 0 ≤ o) (h1 : o ≤ 1000000) :
  Calls Tryz.prog 124 #[.pointer (some ⟨g, 0, none⟩)] w fun e w' => if o < 200 then e = .returned (.tuple #[]) ∧ PS w0 w' g ws k (o + 1) ∧ KeepBut w w' g none else e = fltE (9, k + 1) ∧ Below w0.heap.size w0 w' := by
 have HP := Aside0.mk h
 have HK := Aside0.mk (KeepBut.refl w g none)
 obtain ⟨x1, x2, y1, y2⟩ := h.cells
 have hw : wrap64 (o + 1) = o + 1 := by unfold wrap64; omega
 have HS := Aside0.mk (h.open_ (o + 1))
 clear h
 have HK2 := Aside0.mk (KeepBut.set_ HK.out 2 (.int .i64 (o + 1)))
 have x3 := (HS.out.cells).2.1
 by_cases hlt : o < 200
 ·simp only [if_pos hlt]
  have d : decide (o + 1 > 200) = false := decide_eq_false (by omega)
  go_enter Tryz.func124, Tryz.ntmps124
  go_wp2_with fail
  go_end0
  exact ⟨rfl, HS.out, HK2.out⟩
 ·simp only [if_neg hlt]
  have d : decide (o + 1 > 200) = true := decide_eq_true (by omega)
  go_enter Tryz.func124, Tryz.ntmps124
  go_wp2_with fail
  refine (fail_calls HS.out 9).mono ?_
  rintro e w3 ⟨rfl, rfl⟩
  go_wp2_with fail
  exact ⟨rfl, rfl, HS.out.be⟩
theorem want_lits (h : PS w0 w g ws k o) (l : List ByteArray) (hl : l.length ≤ 1048576) (cs : Array Value) (hcs : cs = (encs Value.string l).toArray) (n : Nat) (hn : n = l.length) :
  Calls Tryz.prog 76 #[.pointer (some ⟨g, 0, none⟩), .slice (some ⟨w.heap.size, 0, none⟩) n n] (w.alloc (.cells cs 9)) (POut0 w0 w g ws o (wantsR ws l k)) := by
 subst hcs; subst hn
 refine (want_calls (h.alloc _) (some ⟨w.heap.size, 0, none⟩) l.length l (lit_C w l 9 (by omega)) (fun ad e _ => by cases e; exact Nat.ne_of_gt h.lt)).mono ?_
 intro e w' hp
 unfold POut0 at hp ⊢
 cases hr : wantsR ws l k with
 | error f => rw [hr] at hp; exact hp
 | ok k' =>
  rw [hr] at hp
  exact ⟨hp.1, hp.2.1, KeepBut.trans (KeepBut.of_below (below_alloc (Below.refl _ _) _) g none) hp.2.2 (.inl rfl)⟩
end
end Go.Proofs.YticndoihkfbpoaaGreatDoor
