/- Package emit: what between and names write. -/
import Derived.Test.YticndoihkfbpoaaGreatDoorOc
namespace Go.Proofs.YticndoihkfbpoaaGreatDoor
open Go Go.RowKit Go.Lib Go.Proofs.YticndoihkfbpoaaGreatDoorW.PrintWords Go.Proofs.YticndoihkfbpoaaGreatDoor.PScope
set_option maxRecDepth 100000
set_option linter.unusedSimpArgs false
set_option linter.unusedVariables false
attribute [local irreducible] wpStill
theorem blk_two (w : World) (o1 o2 : Obj) : ((w.alloc o1).alloc o2).heap[w.heap.size + 1]? = some o2 := by
 have h := blk_new (w.alloc o1) o2
 rw [show (w.alloc o1).heap.size = w.heap.size + 1 from Array.size_push _] at h
 exact h
theorem st2 (w : World) (o1 o2 : Obj) : ((w.alloc o1).alloc o2).heap[w.heap.size]? = some o1 ∧ ((w.alloc o1).alloc o2).heap[w.heap.size + 1]? = some o2 ∧ Below w.heap.size w ((w.alloc o1).alloc o2) :=
 ⟨blk_alloc (blk_new w o1) o2, blk_two w o1 o2, below_alloc (below_alloc (Below.refl _ w) _) _⟩
def btwL (us : Nat → List ByteArray) : Nat → List ByteArray
 | 0 => []
 | k + 1 => btwL us k ++ ((if k = 0 then [] else [comS]) ++ us k)
def btw (us : Nat → List ByteArray) (n : Nat) : List ByteArray := [opnS] ++ btwL us n ++ [clsS]
theorem btwL_le (us : Nat → List ByteArray) : ∀ {j n : Nat}, j ≤ n → (btwL us j).length ≤ (btwL us n).length
 | j, 0, h => by (obtain rfl : j = 0 := by omega); exact Nat.le_refl _
 | j, n + 1, h => by
  by_cases e : j = n + 1
  ·rw [e]; exact Nat.le_refl _
  ·have := btwL_le us (show j ≤ n by omega)
   rw [show btwL us (n + 1) = btwL us n ++ ((if n = 0 then [] else [comS]) ++ us n) from rfl, List.length_append]
   omega
def namesW (l : List ByteArray) : List ByteArray := btw (fun i => [l.getD i es]) l.length
section
variable {w0 w : World} {gp : Nat} {v : Value} {ws : List ByteArray}
set_option maxHeartbeats 4000000 in
theorem between_calls (F : Nat) (a b : Value) (eg : ∀ args w, (callFunc F args).run Tryz.prog w = .ok (.enter F args) w) (n : Nat) (hn : n ≤ 9223372036854775807) (us : Nat → List ByteArray) (Inv : World → Prop)
  (hst : ∀ (W W' : World) (vc : Value) (wc : List ByteArray), PrAt 111 w0 W gp vc wc → Inv W → KeepBut W W' gp vc.ownBlock → Inv W')
  (hF : ∀ (W : World) (vc : Value) (wc : List ByteArray) (i : Nat), i < n → PrAt 111 w0 W gp vc wc → Inv W → wc.length + (us i).length ≤ 8796093022208 → Calls Tryz.prog F #[.int .i64 (i : Int), a, b] W (PrPost 111 w0 gp vc wc (us i) W))
  (h : PrAt 111 w0 w gp v ws) (hI : Inv w) (hl : ws.length + (btw us n).length ≤ 8796093022208) :
  Calls Tryz.prog 96 #[.pointer (some ⟨gp, 0, none⟩), .int .i64 (n : Int), .func (.func F) #[] #[a, b]] w (PrPost 111 w0 gp v ws (btw us n) w) := by
 have HST := Aside0.mk hst; have HF := Aside0.mk hF; have HI := Aside0.mk hI
 have HLN := Aside0.mk (show ws.length + ([opnS] ++ btwL us n ++ [clsS]).length ≤ 8796093022208 from hl)
 have HS := Aside0.mk (PrSt.start h)
 clear hst hF hI hl h
 go_enter Tryz.func96, Tryz.ntmps96
 go_wp2_with fail
 refine (eput_lits HS.out.at_ [opnS] (by simp) (by have := HLN.out; simp only [List.length_append, List.length_cons, List.length_nil] at this ⊢; omega) _ rfl 1 rfl).mono ?_
 intro e w11 hp
 obtain ⟨rfl, v11, hst, hk⟩ := HS.out.then hp
 replace HI := Aside0.mk (HST.out _ _ _ _ HS.out.at_ HI.out hk)
 replace HS := Aside0.mk hst
 clear hp hst hk
 go_wp2_with fail
 go_loopg [11] n (fun gg s11 wr => ∃ (kk : Nat) (vc : Value), kk ≤ n ∧ n - kk ≤ gg ∧ s11 = .int .i64 (kk : Int) ∧ Aside0 (PrSt 111 w0 gp v ws w ([] ++ [opnS] ++ btwL us kk) wr vc) ∧ Aside0 (Inv wr))
 case atStart => exact ⟨0, _, Nat.zero_le _, by omega, rfl, ⟨by rw [show [] ++ [opnS] ++ btwL us 0 = [] ++ [opnS] from rfl]; exact HS.out⟩, HI⟩
 case round =>
  clear HS HI
  obtain ⟨kk, vc, hkk, hgk, rfl, HS, HI⟩ := hrel
  by_cases hlt : kk < n
  ·have hltz : (kk : Int) < (n : Int) := by omega
   have HUN := Aside0.mk (show (btwL us kk).length + ((if kk = 0 then [] else [comS]) ++ us kk).length ≤ (btwL us n).length from by rw [← List.length_append]; exact btwL_le us (show kk + 1 ≤ n by omega))
   by_cases h0 : kk = 0
   ·have d0 : decide ((kk : Int) > 0) = false := decide_eq_false (by omega)
    subst h0
    go_wp2_with fail
    refine (HF.out _ _ _ 0 hlt HS.out.at_ HI.out (by have := HLN.out; have h2 := HUN.out; simp only [if_pos rfl, List.length_append, List.length_cons, List.length_nil] at this h2 ⊢; omega)).mono ?_
    intro e w12 hp
    obtain ⟨rfl, v12, hst, hk⟩ := HS.out.then hp
    replace HI := Aside0.mk (HST.out _ _ _ _ HS.out.at_ HI.out hk)
    replace HS := Aside0.mk hst
    clear hp hst hk
    go_wp2_with fail
    go_roundg (n - (0 + 1))
    case measure => omega
    case rel => exact ⟨0 + 1, _, by omega, by omega, by go_num, ⟨by rw [show btwL us (0 + 1) = btwL us 0 ++ ((if 0 = 0 then [] else [comS]) ++ us 0) from rfl, if_pos rfl , List.nil_append, ← List.append_assoc]; exact HS.out⟩, HI⟩
   ·have d0 : decide ((kk : Int) > 0) = true := decide_eq_true (by omega)
    go_wp2_with fail
    refine (eput_lits HS.out.at_ [comS] (by simp) (by have := HLN.out; have h2 := HUN.out; simp only [if_neg h0, List.length_append, List.length_cons, List.length_nil] at this h2 ⊢; omega) _ rfl 1 rfl).mono ?_
    intro e w13 hp
    obtain ⟨rfl, v13, hst, hk⟩ := HS.out.then hp
    replace HI := Aside0.mk (HST.out _ _ _ _ HS.out.at_ HI.out hk)
    replace HS := Aside0.mk hst
    clear hp hst hk
    go_wp2_with fail
    refine (HF.out _ _ _ kk hlt HS.out.at_ HI.out (by have := HLN.out; have h2 := HUN.out; simp only [if_neg h0, List.length_append, List.length_cons, List.length_nil] at this h2 ⊢; omega)).mono ?_
    intro e w14 hp
    obtain ⟨rfl, v14, hst, hk⟩ := HS.out.then hp
    replace HI := Aside0.mk (HST.out _ _ _ _ HS.out.at_ HI.out hk)
    replace HS := Aside0.mk hst
    clear hp hst hk
    go_wp2_with fail
    go_roundg (n - (kk + 1))
    case measure => omega
    case rel => exact ⟨kk + 1, _, by omega, by omega, by go_num, ⟨by rw [show btwL us (kk + 1) = btwL us kk ++ ((if kk = 0 then [] else [comS]) ++ us kk) from rfl, if_neg h0 , ← List.append_assoc, ← List.append_assoc]; exact HS.out⟩, HI⟩
  ·obtain rfl : kk = n := by omega
   have hltz : ¬ ((kk : Int) < (kk : Int)) := by omega
   go_wp2_with fail
   refine (eput_lits HS.out.at_ [clsS] (by simp) (by have := HLN.out; simp only [List.length_append, List.length_cons, List.length_nil] at this ⊢; omega) _ rfl 1 rfl).mono ?_
   intro e w15 hp
   obtain ⟨rfl, v15, hst, hk⟩ := HS.out.then hp
   replace HI := Aside0.mk (HST.out _ _ _ _ HS.out.at_ HI.out hk)
   replace HS := Aside0.mk hst
   clear hp hst hk
   go_wp2_with fail
   go_end0
   exact HS.out.done rfl
theorem names1_eg : ∀ args w, (callFunc 134 args).run Tryz.prog w = .ok (.enter 134 args) w := enters_of Tryz.func134 (by kernel_rfl) rfl
set_option maxHeartbeats 4000000 in
theorem names1_calls (h : PrAt 111 w0 w gp v ws) (l : List ByteArray) (A : Option Addr) (c : Nat) (hC : Kd.string.C w0 A l.length l) (b2 b3 : Nat) (t2 t3 : TypeId) (B2 : w.heap[b2]? = some (.cells #[.pointer (some ⟨gp, 0, none⟩)] t2 (0, 0))) (B3 : w.heap[b3]? = some (.cells #[.slice A l.length c] t3 (0, 0))) (i : Nat) (hi : i < l.length) (hl : ws.length + 1 ≤ 8796093022208) :
  Calls Tryz.prog 134 #[.int .i64 (i : Int), .pointer (some ⟨b2, 0, none⟩), .pointer (some ⟨b3, 0, none⟩)] w (PrPost 111 w0 gp v ws [l.getD i es] w) := by
 have d2 := (blk_cell B2 0).trans rfl
 have d3 := (blk_cell B3 0).trans rfl
 have hiz : (i : Int) < (l.length : Int) := by omega
 have hlm : l.length ≤ 9223372036854775807 := hC.2.1
 obtain ⟨tad, tcs, rfl, _, tK, tcc⟩ := Kd.C_get hC (⟨#[]⟩ : ByteArray) (i : Int) (by omega) (by omega)
 obtain rfl := tK
 have tx0 := (h.below.cell (World.block_lt_of_cell? w0 _ (tcc 0 _ rfl))).trans (tcc 0 _ rfl)
 simp only [show Kd.string.sz = 1 from rfl, Nat.mul_one, Nat.add_zero, Int.toNat_natCast] at tx0
 have HP := Aside0.mk (h.below' (below_drew1 (Below.refl _ _)))
 rw [show l.getD i es = l.getD i ⟨#[]⟩ from rfl]
 generalize l.getD i (⟨#[]⟩ : ByteArray) = nm at tx0 ⊢
 have d2a := fun (ob : Obj) => cell?_alloc_some ob d2
 have d3a := fun (ob : Obj) => cell?_alloc_some ob d3
 have tx0a := fun (ob : Obj) => cell?_alloc_some ob tx0
 clear hC h B2 B3 tcc
 go_enter Tryz.func134, Tryz.ntmps134
 go_wp2_with fail
 go_region_with (go_at_call 93; refine (eput_lits (w := World.drew w) HP.out [nm] (by simp) (by simp; omega) _ rfl 1 rfl).mono ?_; intro e w9 hp; obtain ⟨rfl, v9, h9, k9, o9⟩ := hp; have HR := Aside0.mk (show PrPost 111 w0 gp v ws [nm] w (.returned (.tuple #[])) w9 from ⟨rfl, v9, h9, k9, o9⟩); clear h9 k9 o9)
 all_goals
  go_wp2_with fail
  go_end0
  exact HR.out
set_option maxHeartbeats 4000000 in
theorem names_calls (h : PrAt 111 w0 w gp v ws) (l : List ByteArray) (A : Option Addr) (c : Nat) (hC : Kd.string.C w0 A l.length l) (hl : ws.length + (namesW l).length ≤ 8796093022208) :
  Calls Tryz.prog 94 #[.pointer (some ⟨gp, 0, none⟩), .slice A l.length c] w (PrPost 111 w0 gp v ws (namesW l) w) := by
 have hs := st2 w (.cells #[.pointer (some ⟨gp, 0, none⟩)] 109) (.cells #[.slice A l.length c] 31)
 have HL := Aside0.mk hl
 have HC := Aside0.mk hC
 have NG := Aside0.mk (show w.heap.size ≠ gp ∧ w.heap.size + 1 ≠ gp from by have := h.lt; omega)
 have HS0 := Aside0.mk (PrSt.start h)
 have hlm : l.length ≤ 9223372036854775807 := hC.2.1
 clear hl hC h
 go_enter Tryz.func94, Tryz.ntmps94
 go_upto_region 1 with fail
 generalize (w.alloc (.cells #[.pointer (some ⟨gp, 0, none⟩)] 109)).alloc (.cells #[.slice A l.length c] 31) = w1 at hs ⊢
 obtain ⟨b2, b3, hb⟩ := hs
 have HS := Aside0.mk (HS0.out.below hb)
 clear hb HS0
 generalize w.heap.size + 1 = g3 at b3 NG ⊢
 obtain ⟨g2, hq⟩ : ∃ g2, w.heap.size = g2 := ⟨_, rfl⟩
 rw [hq] at b2 NG ⊢
 clear hq
 have B2 := Aside0.mk b2; have B3 := Aside0.mk b3
 clear b2 b3
 have d2 := (blk_cell B2.out 0).trans rfl
 have d3 := (blk_cell B3.out 0).trans rfl
 have hmf := run_mkfn
 go_wp2_with fail
 refine (between_calls (w0 := w0) (gp := gp) 134 _ _ names1_eg l.length hlm (fun i => [l.getD i es]) (fun W => W.heap[g2]? = some (.cells #[.pointer (some ⟨gp, 0, none⟩)] 109 (0, 0)) ∧ W.heap[g3]? = some (.cells #[.slice A l.length c] 31 (0, 0))) (fun W W' vc wc hp hi hk => ⟨hp.apart hi.1 NG.out.1 (by decide) hk, hp.apart hi.2 NG.out.2 (by decide) hk⟩) (fun W vc wc i hi hp hinv hln => names1_calls hp l A c HC.out g2 g3 _ _ hinv.1 hinv.2 i hi hln) HS.out.at_ ⟨B2.out, B3.out⟩ (by have := HL.out; unfold namesW at this; simpa using this)).mono ?_
 intro e w5 hp
 obtain ⟨rfl, v5, hst, _⟩ := HS.out.then hp
 have HS5 := Aside0.mk hst
 clear hp hst hmf d2 d3
 go_wp2_with fail
 go_end0
 exact HS5.out.done rfl
end
end Go.Proofs.YticndoihkfbpoaaGreatDoor
