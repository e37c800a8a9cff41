/- Printers (of emit, of tree): words are put behind words. -/
import Derived.Test.YticndoihkfbpoaaGreatDoorUr
namespace Go.Proofs.YticndoihkfbpoaaGreatDoor
open Go Go.RowKit Go.Lib Go.Proofs.YticndoihkfbpoaaGreatDoorW.PrintWords Go.Proofs.YticndoihkfbpoaaGreatDoor.PScope
set_option maxRecDepth 100000
set_option linter.unusedSimpArgs false
set_option linter.unusedVariables false
structure PrAt (T : TypeId) (w0 w : World) (gp : Nat) (v : Value) (ws : List ByteArray) : Prop where
 blk : w.heap[gp]? = some (.cells #[v] T (0, 0))
 row : Kd.string.R 9 w (gp + 1) (fun _ => True) v ws
 hg : w0.heap.size ≤ gp
 below : Below w0.heap.size w0 w
def PrPost (T : TypeId) (w0 : World) (gp : Nat) (v : Value) (ws us : List ByteArray) (w : World) (e : Ending) (w' : World) : Prop :=
 e = .returned (.tuple #[]) ∧ ∃ v', PrAt T w0 w' gp v' (ws ++ us) ∧ KeepBut w w' gp v.ownBlock ∧ (v'.ownBlock = v.ownBlock ∨ ∃ b, v'.ownBlock = some b ∧ w.heap.size ≤ b)
theorem infoPr : (Tryz.prog.info? 9).map (fun i => (i.zero, i.size, i.bytes)) = some (some (.string ⟨#[]⟩), 1, 16) := by kernel_rfl
section
variable {T : TypeId} {w0 w w' w1 w2 : World} {gp : Nat} {v v1 : Value} {ws us : List ByteArray}
theorem PrAt.lt (h : PrAt T w0 w gp v ws) : gp < w.heap.size := blk_lt h.blk
theorem PrAt.below' (h : PrAt T w0 w gp v ws) (hb : Below w.heap.size w w') : PrAt T w0 w' gp v ws := ⟨below_blk h.blk hb, Kd.R_below h.row hb, h.hg, below_step h.below hb⟩
theorem PrAt.alloc (h : PrAt T w0 w gp v ws) (ob : Obj) : PrAt T w0 (w.alloc ob) gp v ws := h.below' (below_alloc (Below.refl _ _) ob)
theorem PrAt.apart (h : PrAt T w0 w gp v ws) {g : Nat} {cs : Array Value} {t : TypeId} (hb : w.heap[g]? = some (.cells cs t (0, 0))) (hg : g ≠ gp) (ht : t ≠ 9) (hk : KeepBut w w' gp v.ownBlock) : w'.heap[g]? = some (.cells cs t (0, 0)) :=
 hk.blk hb hg (fun e => by
  obtain ⟨cs2, h2⟩ := R_typed h.row g e.symm
  rw [h2] at hb
  injection hb with hb
  injection hb with _ hb
  exact ht hb.symm)
theorem PrPost.first (hb : Below w.heap.size w w1) {e : Ending} (h : PrPost T w0 gp v ws us w1 e w') : PrPost T w0 gp v ws us w e w' := by
 obtain ⟨rfl, v2, h2, k2, o2⟩ := h
 refine ⟨rfl, v2, h2, (KeepBut.of_below hb gp v.ownBlock).trans k2 (.inl rfl), ?_⟩
 rcases o2 with o2 | ⟨b, o2, hb2⟩
 ·exact .inl o2
 ·exact .inr ⟨b, o2, Nat.le_trans hb.size hb2⟩
theorem lit_row (w : World) (l : List ByteArray) (hl : l.length ≤ 1048576) : Kd.string.C (w.alloc (.cells (encs Value.string l).toArray 9)) (some ⟨w.heap.size, 0, none⟩) l.length l := lit_C w l 9 (by omega)
set_option maxHeartbeats 2000000 in
theorem eput_calls (h : PrAt 111 w0 w gp v ws) (A : Option Addr) (c : Nat) (us : List ByteArray) (hU : Kd.string.C w A us.length us) (hl : ws.length + us.length ≤ 8796093022208) :
  Calls Tryz.prog 93 #[.pointer (some ⟨gp, 0, none⟩), .slice A us.length c] w (PrPost 111 w0 gp v ws us w) := by
 obtain ⟨A0, c0, hv⟩ := Kd.R_slice h.row
 subst hv
 have x0 := (blk_cell h.blk 0).trans rfl
 have H := Aside0.mk h
 have HU := Aside0.mk hU
 have HT := Aside0.mk Tryz.underlying31
 have hlt := h.lt
 clear h hU
 go_enter Tryz.func93, Tryz.ntmps93
 go_wp2_with (at_builtin; refine Kd.R_append_rows Kd.string (w0 := w) (gp + 1) rfl (.tmp 8) (.tmp 9) 31 9 (.string ⟨#[]⟩) 16 rfl HT.out infoPr rfl (by decide) (by omega) (.slice A0 ws.length c0) ws us A us.length c (fun _ => True) (fun _ => False) rfl rfl H.out.row HU.out (fun _ _ h => h) (fun _ h => h.elim) (fun _ _ => trivial) (Below.refl _ _) (by omega) (by omega) ?_; intro v1 w6 ho_ hb_ hg_ hat_; obtain ⟨A1, c1, hv1⟩ := Kd.R_slice ho_; rw [List.length_append] at hv1; subst hv1; have HO := Aside0.mk ho_; have HG := Aside0.mk hg_; have HA := Aside0.mk hat_; have HB := Aside0.mk hb_; have BF := Aside0.mk ((hb_.block gp (Nat.lt_succ_self _)).trans H.out.blk); clear ho_ hb_ hg_ hat_; have c6 := (blk_cell BF.out 0).trans rfl; have f6 := blk_frozen BF.out 0)
 go_end0
 have hst : Turned (fun b => b = gp) w6 (w6.setCell ⟨gp, 0, none⟩ (.slice A1 (ws.length + us.length) c1)) := (Turned.refl (fun b => b = gp) w6).set (p := ⟨gp, 0, none⟩) rfl _
 have hg0 := H.out.hg
 refine ⟨rfl, .slice A1 (ws.length + us.length) c1, ⟨blk_put BF.out 0 _ rfl, ?_, hg0, ?_⟩, (KeepBut.of_grown HG.out gp).set_ 0 _, HA.out⟩
 ·exact Kd.R_mono (Kd.R_step (Kd.R_mono (Kd.R_bound HO.out) (fun k hk => (hk.2.1 : gp + 1 ≤ k))) (fun k hk hlt => hst.block k hlt (fun e => by omega))) (fun _ _ => trivial)
 ·exact below_set (H.out.below.trans (HB.out.mono (by omega))) hg0
theorem eput_lits (h : PrAt 111 w0 w gp v ws) (us : List ByteArray) (hu : us.length ≤ 1048576) (hl : ws.length + us.length ≤ 8796093022208) (cs : Array Value) (hcs : cs = (encs Value.string us).toArray) (n : Nat) (hn : n = us.length) :
  Calls Tryz.prog 93 #[.pointer (some ⟨gp, 0, none⟩), .slice (some ⟨w.heap.size, 0, none⟩) n n] (w.alloc (.cells cs 9)) (PrPost 111 w0 gp v ws us w) := by
 subst hcs; subst hn
 refine (eput_calls (h.alloc _) (some ⟨w.heap.size, 0, none⟩) us.length us (lit_row w us hu) hl).mono ?_
 intro e w' hp
 exact hp.first (below_alloc (Below.refl _ _) _)
set_option maxHeartbeats 2000000 in
theorem tput_calls (h : PrAt 241 w0 w gp v ws) (A : Option Addr) (c : Nat) (us : List ByteArray) (hU : Kd.string.C w A us.length us) (hl : ws.length + us.length ≤ 8796093022208) :
  Calls Tryz.prog 229 #[.pointer (some ⟨gp, 0, none⟩), .slice A us.length c] w (PrPost 241 w0 gp v ws us w) := by
 obtain ⟨A0, c0, hv⟩ := Kd.R_slice h.row
 subst hv
 have x0 := (blk_cell h.blk 0).trans rfl
 have H := Aside0.mk h
 have HU := Aside0.mk hU
 have HT := Aside0.mk Tryz.underlying31
 have hlt := h.lt
 clear h hU
 go_enter Tryz.func229, Tryz.ntmps229
 go_wp2_with (at_builtin; refine Kd.R_append_rows Kd.string (w0 := w) (gp + 1) rfl (.tmp 8) (.tmp 9) 31 9 (.string ⟨#[]⟩) 16 rfl HT.out infoPr rfl (by decide) (by omega) (.slice A0 ws.length c0) ws us A us.length c (fun _ => True) (fun _ => False) rfl rfl H.out.row HU.out (fun _ _ h => h) (fun _ h => h.elim) (fun _ _ => trivial) (Below.refl _ _) (by omega) (by omega) ?_; intro v1 w6 ho_ hb_ hg_ hat_; obtain ⟨A1, c1, hv1⟩ := Kd.R_slice ho_; rw [List.length_append] at hv1; subst hv1; have HO := Aside0.mk ho_; have HG := Aside0.mk hg_; have HA := Aside0.mk hat_; have HB := Aside0.mk hb_; have BF := Aside0.mk ((hb_.block gp (Nat.lt_succ_self _)).trans H.out.blk); clear ho_ hb_ hg_ hat_; have c6 := (blk_cell BF.out 0).trans rfl; have f6 := blk_frozen BF.out 0)
 go_end0
 have hst : Turned (fun b => b = gp) w6 (w6.setCell ⟨gp, 0, none⟩ (.slice A1 (ws.length + us.length) c1)) := (Turned.refl (fun b => b = gp) w6).set (p := ⟨gp, 0, none⟩) rfl _
 have hg0 := H.out.hg
 refine ⟨rfl, .slice A1 (ws.length + us.length) c1, ⟨blk_put BF.out 0 _ rfl, ?_, hg0, ?_⟩, (KeepBut.of_grown HG.out gp).set_ 0 _, HA.out⟩
 ·exact Kd.R_mono (Kd.R_step (Kd.R_mono (Kd.R_bound HO.out) (fun k hk => (hk.2.1 : gp + 1 ≤ k))) (fun k hk hlt => hst.block k hlt (fun e => by omega))) (fun _ _ => trivial)
 ·exact below_set (H.out.below.trans (HB.out.mono (by omega))) hg0
theorem tput_lits (h : PrAt 241 w0 w gp v ws) (us : List ByteArray) (hu : us.length ≤ 1048576) (hl : ws.length + us.length ≤ 8796093022208) (cs : Array Value) (hcs : cs = (encs Value.string us).toArray) (n : Nat) (hn : n = us.length) :
  Calls Tryz.prog 229 #[.pointer (some ⟨gp, 0, none⟩), .slice (some ⟨w.heap.size, 0, none⟩) n n] (w.alloc (.cells cs 9)) (PrPost 241 w0 gp v ws us w) := by
 subst hcs; subst hn
 refine (tput_calls (h.alloc _) (some ⟨w.heap.size, 0, none⟩) us.length us (lit_row w us hu) hl).mono ?_
 intro e w' hp
 exact hp.first (below_alloc (Below.refl _ _) _)
end
end Go.Proofs.YticndoihkfbpoaaGreatDoor
