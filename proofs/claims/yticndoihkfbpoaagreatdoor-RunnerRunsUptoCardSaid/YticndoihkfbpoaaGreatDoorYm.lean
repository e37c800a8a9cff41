/- The reference's frame: its block, its variables; place. -/
import Derived.Test.YticndoihkfbpoaaGreatDoorYc
namespace Go.Proofs.YticndoihkfbpoaaGreatDoor
open Go Go.RowKit Go.Lib Go.Proofs.YticndoihkfbpoaaGreatDoorW.PrintWords Go.Proofs.YticndoihkfbpoaaGreatDoor.PScope
set_option maxRecDepth 100000
set_option linter.unusedSimpArgs false
set_option linter.unusedVariables false
abbrev SlotV := ByteArray × Bool × Int
def kSl : Kd SlotV := Kd.pair Kd.string (Kd.pair Kd.bool (Kd.int .i64))
def slotV : List SlotV → ByteArray → Cl
 | [], _ => nilC
 | x :: r, s => if x.1 = s then (x.2.2, x.2.1) else slotV r s
def slotSet : List SlotV → ByteArray → Cl → List SlotV
 | [], s, c => [(s, c.2, c.1)]
 | x :: r, s, c => if x.1 = s then (s, c.2, c.1) :: r else x :: slotSet r s c
theorem slotV_set : ∀ (vs : List SlotV) (s t : ByteArray) (c : Cl), slotV (slotSet vs s c) t = if t = s then c else slotV vs t
 | [], s, t, c => by
  unfold slotSet slotV
  by_cases h : t = s
  ·rw [if_pos h, if_pos h.symm]
  ·rw [if_neg h, if_neg (fun e => h e.symm), slotV]
 | x :: r, s, t, c => by
  unfold slotSet
  by_cases hx : x.1 = s
  ·rw [if_pos hx]
   by_cases h : t = s
   ·rw [if_pos h, slotV, if_pos h.symm]
   ·rw [if_neg h, slotV, if_neg (fun e => h e.symm), slotV, if_neg (fun e => h (e.symm.trans hx))]
  ·rw [if_neg hx]
   by_cases h : t = s
   ·rw [if_pos h, slotV, if_neg (fun e => hx (e.trans h)), slotV_set r s t c, if_pos h]
   ·rw [if_neg h]
    by_cases hxt : x.1 = t
    ·rw [slotV, if_pos hxt, slotV, if_pos hxt]
    ·rw [slotV, if_neg hxt, slotV_set r s t c, if_neg h, slotV, if_neg hxt]
def SameVars (vs : List SlotV) (f : Vars) : Prop := ∀ s, slotV vs s = vget f s
theorem SameVars.none : SameVars [] (fun _ => none) := fun s => rfl
theorem SameVars.set {vs : List SlotV} {f : Vars} (h : SameVars vs f) (s : ByteArray) (c : Cl) : SameVars (slotSet vs s c) (mupd f s c) := by
 intro t
 rw [slotV_set]
 unfold vget mupd
 by_cases e : t = s
 ·rw [if_pos e, if_pos e]; rfl
 ·rw [if_neg e, if_neg e]; exact h t
theorem slotSet_len : ∀ (vs : List SlotV) (s : ByteArray) (c : Cl), (slotSet vs s c).length ≤ vs.length + 1
 | [], s, c => Nat.le_refl _
 | x :: r, s, c => by
  unfold slotSet
  split
  ·simp
  ·have := slotSet_len r s c
   simp only [List.length_cons]; omega
def IsSl (w : World) (k : Nat) : Prop := ∃ cells, w.heap[k]? = some (.cells cells 172 (0, 0))
theorem IsSl.not {w : World} {k : Nat} {t : TypeId} {cells : Array Value} (h : w.heap[k]? = some (.cells cells t (0, 0))) (ht : t ≠ 172) : ¬ IsSl w k := by
 rintro ⟨c2, h2⟩
 rw [h2] at h
 injection h with h
 injection h with _ h
 exact ht h.symm
def MemIn (m : List Cl) : Prop := ∀ c ∈ m, InR c.1
def VarsIn (f : Vars) : Prop := ∀ s, InR (vget f s).1
theorem InR.zero : InR 0 := ⟨by decide, by decide⟩
theorem VarsIn.none : VarsIn (fun _ => none) := fun _ => InR.zero
theorem VarsIn.set {f : Vars} (h : VarsIn f) (s : ByteArray) {c : Cl} (hc : InR c.1) : VarsIn (mupd f s c) := by
 intro t
 unfold vget mupd
 by_cases e : t = s
 ·rw [if_pos e]; exact hc
 ·rw [if_neg e]; exact h t
theorem MemIn.set {m : List Cl} (h : MemIn m) (i : Nat) {c : Cl} (hc : InR c.1) : MemIn (m.set i c) := by
 intro x hx
 rcases List.mem_or_eq_of_mem_set hx with hx | rfl
 ·exact h x hx
 ·exact hc
theorem MemIn.getD {m : List Cl} (h : MemIn m) (i : Nat) : InR (m.getD i nilC).1 := by
 rw [List.getD_eq_getElem?_getD]
 by_cases hi : i < m.length
 ·rw [List.getElem?_eq_getElem hi]; exact h _ (List.getElem_mem hi)
 ·rw [List.getElem?_eq_none (by omega)]; exact InR.zero
structure FAtR (w0 w : World) (g : Nat) (ma : Addr) (A : Option Addr) (c : Nat) (l : List FF) (N : Nat) (m : List Cl) (tr : Bool) (cn : Int) (gf : Nat) (base : Int) (bv q : Nat) (f : Vars) (bad : Bool) : Prop where
 run : RAtR w0 w g ma A c l N m tr cn
 frm : ∃ v vs, w.heap[gf]? = some (.cells #[.pointer (some ⟨g, 0, none⟩), .int .i64 base, v, .bool bad] 132 (0, 0)) ∧ kSl.R 172 w bv (fun _ => True) v vs ∧ SameVars vs f ∧ vs.length ≤ q
 b0 : 0 ≤ base
 b1 : base ≤ (N : Int)
 hf : w0.heap.size ≤ gf
 lt : gf < bv ∧ g < bv ∧ ma.block < bv
 ne : gf ≠ g ∧ gf ≠ ma.block
 inm : MemIn m
 inv : VarsIn f
 le : bv ≤ w.heap.size
def SV (w : World) (gf bv : Nat) (b : Nat) : Prop := b = gf ∨ (bv ≤ b ∧ IsSl w b)
theorem RAtR.moved {S : Nat → Prop} {w0 w w' : World} {g : Nat} {ma : Addr} {A : Option Addr} {c : Nat} {l : List FF} {N : Nat} {m : List Cl} {tr : Bool} {cn : Int} (h : RAtR w0 w g ma A c l N m tr cn) (ht : Turned S w w') (hg : ¬ S g) (hm : ¬ S ma.block) (hw : ∀ k, S k → w0.heap.size ≤ k) : RAtR w0 w' g ma A c l N m tr cn :=
 ⟨ht.blk h.blk hg, ⟨h.mem.1, ht.blk h.mem.2 hm⟩, h.len, h.few, h.hg, h.hb, h.ne, ht.below h.below h.below.size hw⟩
section
variable {w0 w w' : World} {g : Nat} {ma : Addr} {A : Option Addr} {c : Nat} {l : List FF} {N : Nat} {m : List Cl} {tr : Bool} {cn : Int} {gf : Nat} {base : Int} {bv q : Nat} {f : Vars} {bad : Bool}
theorem FAtR.below' (h : FAtR w0 w g ma A c l N m tr cn gf base bv q f bad) (hb : Below w.heap.size w w') : FAtR w0 w' g ma A c l N m tr cn gf base bv q f bad := by
 obtain ⟨v, vs, h1, h2, h3, h4⟩ := h.frm
 exact ⟨h.run.below' hb, ⟨v, vs, below_blk h1 hb, Kd.R_below h2 hb, h3, h4⟩, h.b0, h.b1, h.hf, h.lt, h.ne, h.inm, h.inv, Nat.le_trans h.le hb.size⟩
theorem FAtR.more (h : FAtR w0 w g ma A c l N m tr cn gf base bv q f bad) {q' : Nat} (hq : q ≤ q') : FAtR w0 w g ma A c l N m tr cn gf base bv q' f bad := by
 obtain ⟨v, vs, h1, h2, h3, h4⟩ := h.frm
 exact ⟨h.run, ⟨v, vs, h1, h2, h3, by omega⟩, h.b0, h.b1, h.hf, h.lt, h.ne, h.inm, h.inv, h.le⟩
theorem FAtR.lts (h : FAtR w0 w g ma A c l N m tr cn gf base bv q f bad) : gf < w.heap.size ∧ g < w.heap.size ∧ ma.block < w.heap.size := by
 have h1 := h.lt
 have h2 := h.le
 omega
theorem FAtR.turned {m1 : List Cl} {tr1 : Bool} {cn1 : Int} (h : FAtR w0 w g ma A c l N m tr cn gf base bv q f bad) (hR : RAtR w0 w' g ma A c l N m1 tr1 cn1) (hm : MemIn m1) (ht : Turned (fun b => b = g ∨ b = ma.block) w w') : FAtR w0 w' g ma A c l N m1 tr1 cn1 gf base bv q f bad := by
 obtain ⟨v, vs, h1, h2, h3, h4⟩ := h.frm
 obtain ⟨n1, n2⟩ := h.ne
 obtain ⟨l1, l2, l3⟩ := h.lt
 refine ⟨hR, ⟨v, vs, ht.blk h1 (by rintro (e | e) <;> contradiction), ?_, h3, h4⟩, h.b0, h.b1, h.hf, h.lt, h.ne, hm, h.inv, Nat.le_trans h.le ht.size⟩
 exact Kd.R_mono (Kd.R_step (Kd.R_mono (Kd.R_bound h2) (fun k hk => (hk.2.1 : bv ≤ k))) (fun k hk hlt => ht.block k hlt (by rintro (e | e) <;> omega))) (fun _ _ => trivial)
theorem SV.trans {w1 w2 : World} (h : Turned (SV w gf bv) w w1) (k : Turned (SV w1 gf bv) w1 w2) : Turned (SV w gf bv) w w2 :=
 ⟨k.os.trans h.os, k.tape.trans h.tape, k.output.trans h.output, Nat.le_trans h.size k.size, fun i hi hs => by
  have e := h.block i hi hs
  refine (k.block i (Nat.lt_of_lt_of_le hi h.size) (fun hk => hs ?_)).trans e
  rcases hk with hk | ⟨hk, cells, hc⟩
  ·exact .inl hk
  ·exact .inr ⟨hk, cells, e.symm.trans hc⟩⟩
end
def placeV (N : Nat) (base n : Int) : Int := if n < 0 ∨ n ≥ (N : Int) - base then -1 else base + n
set_option maxHeartbeats 2000000 in
theorem place_calls {w0 w : World} {g : Nat} {ma : Addr} {A : Option Addr} {c : Nat} {l : List FF} {N : Nat} {m : List Cl} {tr : Bool} {cn : Int} {gf : Nat} {base : Int} {bv q : Nat} {f : Vars} {bad : Bool} (h : FAtR w0 w g ma A c l N m tr cn gf base bv q f bad) (n : Int) :
  Calls Tryz.prog 114 #[.pointer (some ⟨gf, 0, none⟩), .int .i64 n] w fun e w' => e = .returned (.int .i64 (placeV N base n)) ∧ Below w.heap.size w w' := by
 obtain ⟨v_, vs_, hfrm, _⟩ := h.frm
 have x0 := (blk_cell hfrm 0).trans rfl
 have x1 := (blk_cell hfrm 1).trans rfl
 clear hfrm
 have y1 := (blk_cell h.run.blk 1).trans rfl
 have hfew := h.run.few
 have hb0 := h.b0
 have hb1 := h.b1
 have hw1 : wrap64 ((N : Int) - base) = (N : Int) - base := by unfold wrap64; omega
 have hw2 : IntKind.i64.wrap ((N : Int) - base) = (N : Int) - base := by rw [wrapEq]; exact hw1
 clear h
 by_cases h0 : n < 0
 ·have d0 : decide (n < 0) = true := decide_eq_true h0
  rw [show placeV N base n = -1 from if_pos (.inl h0)]
  clear h0
  go_enter Tryz.func114, Tryz.ntmps114
  go_wp2_with fail
  go_quiet (fail)
  go_wp2_with fail
  go_ret
  exact ⟨rfl, pw_below_drewN (Below.refl _ _) _⟩
 ·have d0 : decide (n < 0) = false := decide_eq_false h0
  by_cases h1 : n ≥ (N : Int) - base
  ·have d1 : decide (n ≥ (N : Int) - base) = true := decide_eq_true h1
   rw [show placeV N base n = -1 from if_pos (.inr h1)]
   clear h0 h1
   go_enter Tryz.func114, Tryz.ntmps114
   go_wp2_with fail
   go_quiet (fail)
   go_wp2_with fail
   go_ret
   exact ⟨rfl, pw_below_drewN (Below.refl _ _) _⟩
  ·have d1 : decide (n ≥ (N : Int) - base) = false := decide_eq_false h1
   have hw3 : wrap64 (base + n) = base + n := by unfold wrap64; omega
   rw [show placeV N base n = base + n from if_neg (by omega)]
   clear h0 h1
   go_enter Tryz.func114, Tryz.ntmps114
   go_wp2_with fail
   go_quiet (fail)
   go_wp2_with fail
   go_ret
   exact ⟨by show Ending.returned (.int .i64 (wrap64 (base + n))) = _; rw [hw3], pw_below_drewN (Below.refl _ _) _⟩
attribute [local irreducible] wpStill
def zSl : SlotV := (⟨#[]⟩, false, 0)
def encR (c : Cl) : Value := .agg #[.bool c.2, .int .i64 c.1]
theorem slot_at {w : World} {b : Nat} {A5 : Option Addr} {c5 : Nat} {vs : List SlotV} (h : kSl.R 172 w b (fun _ => True) (.slice A5 vs.length c5) vs) (i : Nat) (hi : i < vs.length) (x : SlotV) (hx : vs.getD i zSl = x) :
  ∃ ad, A5 = some ad ∧ b ≤ ad.block ∧ IsSl w ad.block ∧ w.cell? (ad.add (i * 3)) = some (.string x.1) ∧ w.cell? ⟨(ad.add (i * 3)).block, (ad.add (i * 3)).off + 1, none⟩ = some (.bool x.2.1) ∧ w.cell? ⟨(ad.add (i * 3)).block, (ad.add (i * 3)).off + 2, none⟩ = some (.int .i64 x.2.2) ∧
   (∀ j, w.frozen? ⟨(ad.add (i * 3)).block, (ad.add (i * 3)).off + j, none⟩ = false) ∧
   (∀ (u : Value), (w.setCell ⟨(ad.add (i * 3)).block, (ad.add (i * 3)).off + 1, none⟩ u).cell? ⟨(ad.add (i * 3)).block, (ad.add (i * 3)).off + 2, none⟩ = some (.int .i64 x.2.2)) ∧
   (∀ (u : Value), (w.setCell ⟨(ad.add (i * 3)).block, (ad.add (i * 3)).off + 1, none⟩ u).frozen? ⟨(ad.add (i * 3)).block, (ad.add (i * 3)).off + 2, none⟩ = false) ∧
   ∀ (c : Cl), kSl.R 172 ((w.setCell ⟨(ad.add (i * 3)).block, (ad.add (i * 3)).off + 1, none⟩ (.bool c.2)).setCell ⟨(ad.add (i * 3)).block, (ad.add (i * 3)).off + 2, none⟩ (.int .i64 c.1)) b (fun _ => True) (.slice A5 vs.length c5) (vs.set i (x.1, c.2, c.1)) ∧
    w.grownBy ((w.setCell ⟨(ad.add (i * 3)).block, (ad.add (i * 3)).off + 1, none⟩ (.bool c.2)).setCell ⟨(ad.add (i * 3)).block, (ad.add (i * 3)).off + 2, none⟩ (.int .i64 c.1)) (some ad.block) := by
 have hlt : (i : Int) < (vs.length : Int) := by omega
 have hne : vs ≠ [] := by intro e; rw [e] at hi; simp at hi
 obtain ⟨gv, cap, hv, hb, _, cells, hcl⟩ := Kd.R_form h (by omega)
 injection hv with hA _ hc
 subst hA; subst hc
 obtain ⟨cs, hcs, hM, hcc, hfz⟩ := Kd.R_elem h zSl (i : Int) (by omega) hlt
 rw [Int.toNat_natCast] at hM hcc hfz
 rw [hx] at hM
 obtain ⟨s, on, v⟩ := x
 have hM' := hM
 obtain ⟨c1, c2, rfl, m1, m2⟩ := hM'
 obtain rfl : c1 = [.string s] := m1
 obtain ⟨c3, c4, rfl, m3, m4⟩ := m2
 obtain rfl : c3 = [.bool on] := m3
 obtain rfl : c4 = [.int .i64 v] := m4
 have ha : (⟨gv, 0, none⟩ : Addr).add (i * 3) = ⟨gv, i * 3, none⟩ := by unfold Addr.add; split <;> simp_all
 have k0 := hcc 0 _ rfl
 have k1 := hcc 1 _ rfl
 have k2 := hcc 2 _ rfl
 rw [show kSl.sz = 3 from rfl] at k0 k1 k2 hfz
 rw [Nat.add_zero] at k0
 refine ⟨⟨gv, 0, none⟩, rfl, hb, ⟨cells, hcl⟩, ?_⟩
 rw [ha]
 refine ⟨k0, k1, k2, hfz, ?_, ?_, ?_⟩
 ·intro u
  rw [blk_cell (blk_put hcl (i * 3 + 1) u rfl)]
  rw [blk_cell hcl] at k2
  rw [Array.getElem?_setIfInBounds_ne (by show i * 3 + 1 ≠ i * 3 + 2; omega)]
  exact k2
 ·intro u
  exact blk_frozen (blk_put hcl (i * 3 + 1) u rfl) _
 ·intro c
  have := Kd.R_seg h (i : Int) (by omega) hlt (c := _) (seg := [.bool c.2, .int .i64 c.1]) (j := 1) hcs (by rw [Int.toNat_natCast]; exact hcc) (by show 1 + 2 ≤ 3; decide) (x' := (s, c.2, c.1)) (okp := fun k => True ∧ k ≠ gv) ⟨[.string s], [.bool c.2, .int .i64 c.1], rfl, rfl, [.bool c.2], [.int .i64 c.1], rfl, rfl, rfl⟩ (fun k hk => hk)
  rw [Int.toNat_natCast, show kSl.sz = 3 from rfl] at this
  exact this
section
variable {w0 w w' : World} {g : Nat} {ma : Addr} {A : Option Addr} {c : Nat} {l : List FF} {N : Nat} {m : List Cl} {tr : Bool} {cn : Int} {gf : Nat} {base : Int} {bv q : Nat} {f : Vars} {bad : Bool}
theorem slotV_drop {vs : List SlotV} {kk : Nat} (h : kk < vs.length) (s : ByteArray) : slotV (vs.drop kk) s = if (vs.getD kk zSl).1 = s then ((vs.getD kk zSl).2.2, (vs.getD kk zSl).2.1) else slotV (vs.drop (kk + 1)) s := by
 rw [drop_getD vs kk h zSl, slotV]
set_option maxHeartbeats 4000000 in
theorem get_calls (h : FAtR w0 w g ma A c l N m tr cn gf base bv q f bad) (s : ByteArray) :
  Calls Tryz.prog 75 #[.pointer (some ⟨gf, 0, none⟩), .string s] w fun e w' => e = .returned (encR (vget f s)) ∧ Below w.heap.size w w' := by
 obtain ⟨v, vs, hfrm, hR, hS, hq⟩ := h.frm
 obtain ⟨A5, c5, rfl⟩ := Kd.R_slice hR
 rw [← hS s]
 have hlen : vs.length ≤ 9223372036854775807 := by have := (Kd.R_reads' hR).2.2.2.1; unfold maxLen at this; omega
 clear hS hq h
 have HB := Aside0.mk (below_alloc (Below.refl w.heap.size w) (.cells #[.bool false, .int .i64 0] 93))
 have B4 := Aside0.mk (blk_new w (.cells #[.bool false, .int .i64 0] 93))
 have HR := Aside0.mk (Kd.R_below hR (below_alloc (Below.refl w.heap.size w) (.cells #[.bool false, .int .i64 0] 93)))
 have x2 := (blk_cell (blk_alloc hfrm (.cells #[.bool false, .int .i64 0] 93)) 2).trans rfl
 clear hR hfrm
 go_enter Tryz.func75, Tryz.ntmps75
 go_wp2_with fail
 generalize w.alloc (.cells #[.bool false, .int .i64 0] 93) = w1 at HB B4 HR x2 ⊢
 obtain ⟨g4, hq4⟩ : ∃ g4, w.heap.size = g4 := ⟨_, rfl⟩
 have HL := Aside0.mk (show w.heap.size ≤ g4 by omega)
 rw [hq4] at B4 ⊢
 clear hq4
 go_loopg [5] vs.length (fun gg s5 wr => ∃ kk : Nat, kk ≤ vs.length ∧ vs.length - kk ≤ gg ∧ s5 = .int .i64 kk ∧ wr = w1 ∧ Aside0 (slotV (vs.drop kk) s = slotV vs s))
 case atStart => exact ⟨0, Nat.zero_le _, by omega, rfl, rfl, ⟨rfl⟩⟩
 case round =>
  obtain ⟨kk, hkk, hgk, rfl, rfl, HS⟩ := hrel
  by_cases hlt : kk < vs.length
  ·have hltz : (kk : Int) < (vs.length : Int) := by omega
   have HS1 := Aside0.mk (slotV_drop hlt s)
   obtain ⟨x, hx⟩ : ∃ x, vs.getD kk zSl = x := ⟨_, rfl⟩
   obtain ⟨ad, rfl, _, _, k0, k1, k2, _⟩ := slot_at HR.out kk hlt x hx
   rw [hx] at HS1
   clear hx
   obtain ⟨nm, on, v⟩ := x
   by_cases he : nm = s
   ·have t0 : (nm.toList == s.toList) = true := by rw [he]; exact beq_self_eq_true _
    have HE := Aside0.mk (show slotV vs s = (v, on) by rw [← HS.out, HS1.out]; exact if_pos he)
    clear he HS HS1
    go_wp2_with ((with_reducible refine gate_store (t := 93) (p := 4) rfl ?_); refine store_whole rfl rfl 93 _ _ rfl g4 _ 93 rfl B4.out _ rfl rfl rfl (by simp [Value.oneCell']) ?_; intro w6 hb6 hg6; have HB6 := Aside0.mk (below_res HB.out hg6 HL.out); have B6 := Aside0.mk hb6; clear hb6 hg6)
    refine bodyPost_ret (results_cell_row rfl _ _ g4 93 _ (0, 0) _ rfl B6.out Tryz.underlying93 rfl (by kernel_rfl)) rfl ?_
    exact ⟨by rw [HE.out]; rfl, HB6.out⟩
   ·have t0 : (nm.toList == s.toList) = false := beq_eq_false_iff_ne.2 (fun h => he (toList_inj h))
    have HE := Aside0.mk (show slotV (vs.drop (kk + 1)) s = slotV vs s by rw [← HS.out, HS1.out]; exact (if_neg he).symm)
    clear he HS HS1
    go_wp2_with fail
    go_roundg (vs.length - (kk + 1))
    case measure => omega
    case rel => exact ⟨kk + 1, by omega, by omega, by go_num, rfl, HE⟩
  ·have hltz : ¬ (kk : Int) < (vs.length : Int) := by omega
   obtain rfl : kk = vs.length := by omega
   have HE := Aside0.mk (show slotV vs s = nilC by rw [← HS.out, List.drop_length]; rfl)
   go_wp2_with ((with_reducible refine gate_store (t := 93) (p := 4) rfl ?_); refine store_whole rfl rfl 93 _ _ rfl g4 _ 93 rfl B4.out _ rfl rfl rfl (by simp [Value.oneCell']) ?_; intro w6 hb6 hg6; have HB6 := Aside0.mk (below_res HB.out hg6 HL.out); have B6 := Aside0.mk hb6; clear hb6 hg6)
   refine bodyPost_ret (results_cell_row rfl _ _ g4 93 _ (0, 0) _ rfl B6.out Tryz.underlying93 rfl (by kernel_rfl)) rfl ?_
   exact ⟨by rw [HE.out]; rfl, HB6.out⟩
theorem slotSet_drop {vs : List SlotV} {kk : Nat} (h : kk < vs.length) (s : ByteArray) (c : Cl) : slotSet (vs.drop kk) s c = if (vs.getD kk zSl).1 = s then (s, c.2, c.1) :: vs.drop (kk + 1) else vs.getD kk zSl :: slotSet (vs.drop (kk + 1)) s c := by
 rw [drop_getD vs kk h zSl, slotSet]
theorem set_take {vs : List SlotV} {kk : Nat} (h : kk < vs.length) (x : SlotV) : vs.take kk ++ x :: vs.drop (kk + 1) = vs.set kk x := by
 rw [List.set_eq_take_append_cons_drop, if_pos h]
theorem take_one {vs : List SlotV} {kk : Nat} (h : kk < vs.length) (r : List SlotV) : vs.take kk ++ vs.getD kk zSl :: r = vs.take (kk + 1) ++ r := by
 rw [List.take_succ_eq_append_getElem h, List.append_assoc, List.getD_eq_getElem?_getD, List.getElem?_eq_getElem h]
 rfl
theorem info_slot : (Tryz.prog.info? 172).map (fun i => (i.zero, i.size, i.bytes)) = some (some (.agg #[.string ⟨#[]⟩, .bool false, .int .i64 0]), 3, 32) := by kernel_rfl
theorem FAtR.stored {v' : Value} {vs' : List SlotV} {f1 : Vars} (h : FAtR w0 w g ma A c l N m tr cn gf base bv q f bad) (ht : Turned (SV w gf bv) w w') (hfrm : w'.heap[gf]? = some (.cells #[.pointer (some ⟨g, 0, none⟩), .int .i64 base, v', .bool bad] 132 (0, 0))) (hR : kSl.R 172 w' bv (fun _ => True) v' vs') (hS : SameVars vs' f1) (hq : vs'.length ≤ q + 1) (hv : VarsIn f1) :
  FAtR w0 w' g ma A c l N m tr cn gf base bv (q + 1) f1 bad := by
 obtain ⟨n1, n2⟩ := h.ne
 obtain ⟨l1, l2, l3⟩ := h.lt
 have hle := h.run.below.size
 refine ⟨h.run.moved ht ?_ ?_ ?_, ⟨v', vs', hfrm, hR, hS, hq⟩, h.b0, h.b1, h.hf, h.lt, h.ne, h.inm, hv, Nat.le_trans h.le ht.size⟩
 ·rintro (e | ⟨e, _⟩) <;> omega
 ·rintro (e | ⟨e, _⟩) <;> omega
 ·have := h.hf
  rintro k (e | ⟨e, _⟩) <;> omega
set_option maxHeartbeats 4000000 in
theorem set_calls (h : FAtR w0 w g ma A c l N m tr cn gf base bv q f bad) (s : ByteArray) (cv : Cl) (hc : InR cv.1) (hq1 : q + 1 ≤ 4398046511104) :
  Calls Tryz.prog 73 #[.pointer (some ⟨gf, 0, none⟩), .string s, encR cv] w fun e w' => e = .returned (.tuple #[]) ∧ FAtR w0 w' g ma A c l N m tr cn gf base bv (q + 1) (mupd f s cv) bad ∧ Turned (SV w gf bv) w w' := by
 have hba := below_alloc (Below.refl w.heap.size w) (.cells #[.bool cv.2, .int .i64 cv.1] 93)
 have HF := Aside0.mk (h.below' hba)
 have HT := Aside0.mk (Turned.of_below (S := SV w gf bv) hba)
 obtain ⟨v, vs, hfrm, hR, hS, hq⟩ := (h.below' hba).frm
 obtain ⟨A5, c5, rfl⟩ := Kd.R_slice hR
 obtain ⟨val, on⟩ := cv
 have B5 := Aside0.mk (blk_new w (.cells #[.bool on, .int .i64 val] 93))
 have HFR := Aside0.mk hfrm
 have HR := Aside0.mk hR
 have HS := Aside0.mk (show SameVars (slotSet vs s (val, on)) (mupd f s (val, on)) from hS.set s _)
 have HV := Aside0.mk (h.inv.set s (c := (val, on)) hc)
 have HQ := Aside0.mk (show vs.length + 1 ≤ q + 1 by omega)
 have HQ2 := Aside0.mk (Nat.le_trans (slotSet_len vs s (val, on)) HQ.out)
 have hlen : vs.length + 1 ≤ 4398046511104 := by omega
 have HLT := Aside0.mk h.lt
 have N5 := Aside0.mk (show w.heap.size ≠ gf ∧ bv ≤ w.heap.size ∧ w.heap.size ≠ g ∧ w.heap.size ≠ ma.block from by have := h.lts; have := h.le; omega)
 clear hfrm hR hS hq hq1 hc hba h
 unfold encR
 go_enter Tryz.func73, Tryz.ntmps73
 go_wp2_with fail
 generalize w.alloc (.cells #[.bool on, .int .i64 val] 93) = w1 at HF HT HFR HR B5 ⊢
 obtain ⟨g5, hq5⟩ : ∃ g5, w.heap.size = g5 := ⟨_, rfl⟩
 rw [hq5] at B5 N5 ⊢
 have HG5 := Aside0.mk hq5
 clear hq5
 have x2 := (blk_cell HFR.out 2).trans rfl
 go_loopg [6] vs.length (fun gg s6 wr => ∃ kk : Nat, kk ≤ vs.length ∧ vs.length - kk ≤ gg ∧ s6 = .int .i64 kk ∧ wr = w1 ∧ Aside0 (slotSet vs s (val, on) = vs.take kk ++ slotSet (vs.drop kk) s (val, on)))
 case atStart => exact ⟨0, Nat.zero_le _, by omega, rfl, rfl, ⟨rfl⟩⟩
 case round =>
  obtain ⟨kk, hkk, hgk, rfl, rfl, HP⟩ := hrel
  by_cases hlt : kk < vs.length
  ·have hltz : (kk : Int) < (vs.length : Int) := by omega
   have HP1 := Aside0.mk (slotSet_drop hlt s (val, on))
   obtain ⟨x, hx⟩ : ∃ x, vs.getD kk zSl = x := ⟨_, rfl⟩
   obtain ⟨ad, rfl, hbv, hsl, k0, k1, k2, k3, k4, k5, k6⟩ := slot_at HR.out kk hlt x hx
   obtain ⟨nm, on0, v0⟩ := x
   by_cases he : nm = s
   ·have t0 : (nm.toList == s.toList) = true := by rw [he]; exact beq_self_eq_true _
    have HE := Aside0.mk (show slotSet vs s (val, on) = vs.set kk (nm, on, val) by rw [HP.out, HP1.out, hx, if_pos he, set_take hlt, he])
    have hK6 : kSl.R 172 (((World.drew wr).setCell ⟨(ad.add (kk * 3)).block, (ad.add (kk * 3)).off + 1, none⟩ (.bool on)).setCell ⟨(ad.add (kk * 3)).block, (ad.add (kk * 3)).off + 2, none⟩ (.int .i64 val)) bv (fun _ => True) (.slice (some ad) vs.length c5) (vs.set kk (nm, on, val)) ∧ (World.drew wr).grownBy (((World.drew wr).setCell ⟨(ad.add (kk * 3)).block, (ad.add (kk * 3)).off + 1, none⟩ (.bool on)).setCell ⟨(ad.add (kk * 3)).block, (ad.add (kk * 3)).off + 2, none⟩ (.int .i64 val)) (some ad.block) := by
     obtain ⟨ad2, e2, _, _, _, _, _, _, _, _, k7⟩ := slot_at (Kd.R_below HR.out (below_drew1 (Below.refl _ _))) kk hlt (nm, on0, v0) hx
     injection e2 with e2
     subst e2
     exact k7 (val, on)
    have K6 := Aside0.mk hK6
    clear hK6
    have HSL := Aside0.mk (And.intro hbv hsl)
    have f1 := k3 1
    have f2 := k3 2
    have k4a := k4 (.bool on)
    have k5a := k5 (.bool on)
    have y0 := (blk_cell B5.out 0).trans rfl
    have y1 := (blk_cell B5.out 1).trans rfl
    clear he HP HP1 hx k6 hbv hsl k3 k4 k5
    go_wp2_with fail
    go_region
    all_goals
     go_wp2_with fail
     try simp only [Exit.inBlock, Exit.then]
     refine bodyPost_ret (results_none rfl _ _ _) rfl ?_
     obtain ⟨hR9, hG9⟩ := K6.out
     have ht : Turned (SV wr gf bv) wr _ := (Turned.of_below (S := SV wr gf bv) (below_drew1 (Below.refl wr.heap.size wr))).trans (Turned.of_grown (S := SV wr gf bv) hG9 (by rintro k ⟨⟩; exact .inr ⟨HSL.out.1, HSL.out.2⟩))
     exact ⟨rfl, HF.out.stored ht (blk_put_far (blk_drew HFR.out) hG9 (fun e => by have := HSL.out.1; have := HLT.out.1; omega)) hR9 (show SameVars (vs.set kk (nm, on, val)) (mupd f s (val, on)) by rw [← HE.out]; exact HS.out) (by rw [List.length_set]; exact Nat.le_trans (Nat.le_succ _) HQ.out) HV.out, SV.trans HT.out ht⟩
   ·have t0 : (nm.toList == s.toList) = false := beq_eq_false_iff_ne.2 (fun h => he (toList_inj h))
    have HE := Aside0.mk (show slotSet vs s (val, on) = vs.take (kk + 1) ++ slotSet (vs.drop (kk + 1)) s (val, on) by rw [HP.out, HP1.out, hx, if_neg he, ← hx, take_one hlt])
    clear he HP HP1 hx k6 hbv hsl k3 k4 k5
    go_wp2_with fail
    go_roundg (vs.length - (kk + 1))
    case measure => omega
    case rel => exact ⟨kk + 1, by omega, by omega, by go_num, rfl, HE⟩
  ·have hltz : ¬ (kk : Int) < (vs.length : Int) := by omega
   obtain rfl : kk = vs.length := by omega
   have HE := Aside0.mk (show slotSet vs s (val, on) = vs ++ [(s, on, val)] by rw [HP.out, List.drop_length, List.take_length]; rfl)
   clear HP
   have y0 := (blk_cell B5.out 0).trans rfl
   have y1 := (blk_cell B5.out 1).trans rfl
   have HU := Aside0.mk Tryz.underlying130
   have GW := Aside0.mk (show bv ≤ wr.heap.size from HF.out.le)
   have x2a := fun (ob : Obj) => cell?_alloc_some ob x2
   have y0a := fun (ob : Obj) => cell?_alloc_some ob y0
   have y1a := fun (ob : Obj) => cell?_alloc_some ob y1
   go_upto_region 6 with fail
   go_region_law (refine Kd.R_append_step kSl (w0 := wr) (W := World.drew wr) bv (by rfl) (.tmp 38) (.tmp 42) 130 172 (.agg #[.string ⟨#[]⟩, .bool false, .int .i64 0]) 32 rfl HU.out info_slot rfl (by show 0 < 3; decide) (by omega) (.slice A5 vs.length c5) vs (s, on, val) [.string s, .bool on, .int .i64 val] (fun _ => True) (fun _ => False) rfl rfl (show kSl.M _ _ _ (s, on, val) [.string s, .bool on, .int .i64 val] from ⟨[.string s], [.bool on, .int .i64 val], rfl, rfl, [.bool on], [.int .i64 val], rfl, rfl, rfl⟩) (fun k hk => hk.elim) (fun _ _ => trivial) (Kd.R_below HR.out (below_drew1 (Below.refl _ _))) (below_drew1 (Below.refl _ _)) GW.out (by omega) ?_; intro v1 w6 hr6 hb6 hg6 hat6; obtain ⟨A1, c1, hv1⟩ := Kd.R_slice hr6; rw [show (vs ++ [(s, on, val)]).length = vs.length + 1 by simp] at hv1; subst hv1; have HR6 := Aside0.mk hr6; have HG6 := Aside0.mk hg6; have BF6 := Aside0.mk ((hb6.block gf HLT.out.1).trans HFR.out); clear hr6 hb6 hg6 hat6; have c6 := (blk_cell BF6.out 2).trans rfl; have f6 := blk_frozen BF6.out 2)
   all_goals
    go_wp2_with fail
    go_end0
    have ht : Turned (SV wr gf bv) wr (w6.setCell ⟨gf, 2, none⟩ (.slice A1 (vs.length + 1) c1)) := ((Turned.of_below (S := SV wr gf bv) (below_drew1 (Below.refl wr.heap.size wr))).trans (Turned.of_grown (S := SV wr gf bv) HG6.out (fun k hk => .inr ⟨R_base HR.out k hk, R_typed HR.out k hk⟩))).set (p := ⟨gf, 2, none⟩) (.inl rfl) _
    refine ⟨rfl, HF.out.stored ht (blk_put BF6.out 2 (.slice A1 (vs.length + 1) c1) rfl) ?_ (show SameVars (vs ++ [(s, on, val)]) (mupd f s (val, on)) by rw [← HE.out]; exact HS.out) (by rw [List.length_append]; exact HQ.out) HV.out, SV.trans HT.out ht⟩
    have hst : Turned (fun b => b = gf) w6 (w6.setCell ⟨gf, 2, none⟩ (.slice A1 (vs.length + 1) c1)) := (Turned.refl (fun b => b = gf) w6).set (p := ⟨gf, 2, none⟩) rfl _
    have hlt1 := HLT.out.1
    exact Kd.R_mono (Kd.R_step (Kd.R_mono (Kd.R_bound HR6.out) (fun k hk => (hk.2.1 : bv ≤ k))) (fun k hk hlt => hst.block k hlt (fun e => by omega))) (fun _ _ => trivial)
end
mutual
def nmS : FS → Nat
 | .mk _ _ _ _ names _ _ arms => 1 + names.length + nmA arms
def nmL : List FS → Nat
 | [] => 0
 | s :: r => nmS s + nmL r
def nmA : List (Int × List FS) → Nat
 | [] => 0
 | a :: r => nmP a + nmA r
def nmP : Int × List FS → Nat
 | (_, b) => nmL b
end
theorem nmS_eq (s : FS) : nmS s = 1 + s.names.length + nmA s.arms := by
 cases s
 rw [nmS]; rfl
theorem nmP_eq (a : Int × List FS) : nmP a = nmL a.2 := by
 obtain ⟨k, b⟩ := a
 rw [nmP]
theorem nmL_drop {xs : List FS} {kk : Nat} (h : kk < xs.length) : nmL (xs.drop kk) = nmS (xs.getD kk zFS) + nmL (xs.drop (kk + 1)) := by
 rw [drop_getD xs kk h zFS, nmL]
theorem nmA_mem : ∀ {r : List (Int × List FS)} {a : Int × List FS}, a ∈ r → nmL a.2 ≤ nmA r
 | [], a, h => by simp at h
 | b :: r, a, h => by
  rw [nmA, nmP_eq]
  rcases List.mem_cons.1 h with rfl | h
  ·omega
  ·have := nmA_mem h; omega
inductive ExIn : S38 → Prop where
 | mk (x : S38) (h : InR x.f2) (hr : ∀ y ∈ x.f4, ExIn y) : ExIn x
inductive FsIn : List FS → Prop where
 | mk (l : List FS) (he : ∀ s ∈ l, ExIn s.e) (ha : ∀ s ∈ l, ∀ x ∈ s.args, ExIn x) (hr : ∀ s ∈ l, ∀ a ∈ s.arms, FsIn a.2) : FsIn l
theorem FsIn.e {l : List FS} (h : FsIn l) : ∀ s ∈ l, ExIn s.e := by cases h; assumption
theorem FsIn.args {l : List FS} (h : FsIn l) : ∀ s ∈ l, ∀ x ∈ s.args, ExIn x := by cases h; assumption
theorem FsIn.arms {l : List FS} (h : FsIn l) : ∀ s ∈ l, ∀ a ∈ s.arms, FsIn a.2 := by cases h; assumption
theorem InR.wrap (a : Int) : InR (wrap64 a) := by unfold InR wrap64; omega
theorem InR.tru (b : Bool) : InR (truV b) := by cases b <;> exact ⟨by decide, by decide⟩
theorem InR.tmod {a : Int} (h : InR a) (b : Int) : InR (a.tmod b) := by
 unfold InR at h ⊢
 by_cases h0 : 0 ≤ a
 ·have h1 := Int.tmod_nonneg b h0
  have h2 : (a.tmod b).natAbs ≤ a.natAbs := by rw [Int.natAbs_tmod]; exact Nat.mod_le _ _
  omega
 ·have h1 := Int.tmod_nonneg b (show 0 ≤ -a by omega)
  rw [Int.neg_tmod] at h1
  have h2 : (a.tmod b).natAbs ≤ a.natAbs := by rw [Int.natAbs_tmod]; exact Nat.mod_le _ _
  omega
theorem InR.un (s : ByteArray) (a : Int) : InR (unV s a).1 := by
 unfold unV
 split
 ·exact InR.wrap _
 ·split
  ·exact InR.tru _
  ·exact InR.zero
theorem InR.bin (s : ByteArray) {a b : Int} (ha : InR a) : InR (binV s a b).1 := by
 unfold binV
 split
 ·exact InR.zero
 ·simp only
  split
  ·unfold arithV
   split
   ·exact InR.wrap _
   ·split
    ·exact InR.wrap _
    ·split
     ·exact InR.wrap _
     ·split
      ·split
       ·exact InR.wrap _
       ·exact InR.zero
      ·split
       ·exact ha.tmod b
       ·exact InR.zero
  ·split
   ·exact ⟨by decide, by decide⟩
   ·exact InR.zero
theorem nilC_in : InR nilC.1 := InR.zero
theorem atV_in {m : List Cl} (hm : MemIn m) {base n : Int} {c : Cl} (h : atV m base n = some c) : InR c.1 := by
 unfold atV at h
 split at h
 ·injection h with h
  rw [← h]
  exact hm.getD _
 ·cases h
theorem valE_in {m : List Cl} (hm : MemIn m) (base : Int) {f : Vars} (hf : VarsIn f) : ∀ {x : S38}, ExIn x → ∀ {c : Cl}, valE m base f x = some c → InR c.1 := by
 intro x hx
 induction hx with
 | mk x h hr ih =>
  intro c hc
  rw [valE_eq] at hc
  obtain ⟨op, nm, n, xs, kids⟩ := x
  simp only at h hr ih hc
  match kids, hr, ih, hc with
  | [], _, _, hc =>
   simp only [List.map_nil, worth] at hc
   split at hc
   ·injection hc with hc; rw [← hc]; exact h
   ·split at hc
    ·injection hc with hc; rw [← hc]; exact hf nm
    ·split at hc
     ·exact atV_in hm hc
     ·injection hc with hc; rw [← hc]; exact nilC_in
  | [a], _, ih, hc =>
   simp only [List.map_cons, List.map_nil, worth] at hc
   split at hc
   ·cases ha : valE m base f a with
    | none => rw [ha] at hc; cases hc
    | some v =>
     rw [ha, Option.map_some] at hc
     injection hc with hc
     rw [← hc]
     split
     ·exact InR.un _ _
     ·exact nilC_in
   ·injection hc with hc; rw [← hc]; exact nilC_in
  | [a, b], _, ih, hc =>
   simp only [List.map_cons, List.map_nil, worth] at hc
   split at hc
   ·cases ha : valE m base f a with
    | none => rw [ha] at hc; cases hc
    | some v =>
     cases hb : valE m base f b with
     | none => rw [ha, hb] at hc; cases hc
     | some u =>
      rw [ha, hb, Option.bind_some, Option.map_some] at hc
      injection hc with hc
      rw [← hc]
      split
      ·exact InR.bin _ (ih a (by simp) ha)
      ·exact nilC_in
   ·injection hc with hc; rw [← hc]; exact nilC_in
  | [k, a, b], _, ih, hc =>
   simp only [List.map_cons, List.map_nil, worth] at hc
   split at hc
   ·cases hk : valE m base f k with
    | none => rw [hk] at hc; cases hc
    | some v =>
     rw [hk, Option.bind_some] at hc
     split at hc
     ·split at hc
      ·exact ih b (by simp) hc
      ·exact ih a (by simp) hc
     ·injection hc with hc; rw [← hc]; exact nilC_in
   ·injection hc with hc; rw [← hc]; exact nilC_in
  | _ :: _ :: _ :: _ :: _, _, _, hc =>
   simp only [List.map_cons, worth] at hc
   injection hc with hc; rw [← hc]; exact nilC_in
def valN (m : List Cl) (base : Int) (f : Vars) (x : S38) : Cl := (valE m base f x).getD nilC
def valT (m : List Cl) (base : Int) (f : Vars) (x : S38) : Bool := (valE m base f x).isNone
theorem valN_in {m : List Cl} (hm : MemIn m) (base : Int) {f : Vars} (hf : VarsIn f) {x : S38} (h : ExIn x) : InR (valN m base f x).1 := by
 unfold valN
 cases hv : valE m base f x with
 | none => exact nilC_in
 | some c => exact valE_in hm base hf h hv
end Go.Proofs.YticndoihkfbpoaaGreatDoor
