/- Package reread: Parse. -/
import Derived.Test.YticndoihkfbpoaaGreatDoorUq
namespace Go.Proofs.YticndoihkfbpoaaGreatDoor
open Go Go.RowKit Go.Lib Go.Proofs.YticndoihkfbpoaaGreatDoorW.PrintWords Go.Proofs.YticndoihkfbpoaaGreatDoor.PScope
set_option maxRecDepth 100000
set_option linter.unusedSimpArgs false
set_option linter.unusedVariables false
def ParsePost (w : World) (s : ByteArray) (e : Ending) (w' : World) : Prop :=
 ∃ (v : Value) (er : Int) (a : Nat), e = .returned (.tuple #[.agg #[v], .agg #[.int .i64 er, .int .i64 (a : Int), .int .i64 0]]) ∧ Below w.heap.size w w' ∧
   (match parseP s with
    | .error f => v = .slice none 0 0 ∧ er = f.1 ∧ a = f.2
    | .ok l => er = 0 ∧ a = 0 ∧ kFF.R 35 w' w.heap.size (fun _ => True) v l)
theorem words_wee : ∀ (l c : List UInt8) (x : ByteArray), x ∈ wordsL l c → x.size ≤ l.length + c.length
 | [], c, x, h => by
   unfold wordsL at h
   split at h
   · cases h
   · obtain rfl := List.mem_singleton.1 h
     show c.toArray.size ≤ _
     simp
 | b :: r, c, x, h => by
   unfold wordsL at h
   split at h
   · split at h
     · have := words_wee r [] x h; simp at this ⊢; omega
     · rcases List.mem_cons.1 h with rfl | h
       · show c.toArray.size ≤ _
         simp
       · have := words_wee r [] x h; simp at this ⊢; omega
   · have := words_wee r (c ++ [b]) x h; simp at this ⊢; omega
theorem PS.made {w1 : World} {A : Option Addr} {c : Nat} {ws : List ByteArray} (hC : Kd.string.C w1 A ws.length ws) (hf : ws.length ≤ 1048577) (hw : ∀ x ∈ ws, x.size ≤ 1048576) :
   PS w1 (w1.alloc (.cells #[.slice A ws.length c, .int .i64 0, .int .i64 0] 97)) w1.heap.size ws 0 0 :=
 ⟨⟨A, c, blk_new w1 _, Nat.le_refl _, hC⟩, below_alloc (Below.refl _ _) _, Nat.zero_le _, hf, hw⟩
theorem PS.both {w0 w : World} {g : Nat} {ws : List ByteArray} {k : Nat} {o : Int} {b T : Nat} {A : Option Addr} {n c : Nat} (h : PS w0 w g ws k o) (hb : w0.heap[b]? = some (.cells #[.slice A n c] T (0, 0))) (u : Value) : PS (w0.setCell ⟨b, 0, none⟩ u) (w.setCell ⟨b, 0, none⟩ u) g ws k o := by
 obtain ⟨⟨A0, c0, hbl, hg, hC⟩, hbe, hle, hf, hw⟩ := h
 have hlt : b < w0.heap.size := blk_lt hb
 refine ⟨⟨A0, c0, blk_far (p := ⟨b, 0, none⟩) hbl (by show g ≠ b; omega) u, by simpa [World.setCell] using hg, ?_⟩, ?_, hle, hf, hw⟩
 · refine Kd.C_keep es hC (g := b) ⟨by simp [World.setCell], fun i _ hn _ => Below.heap_setCell w0 ⟨b, 0, none⟩ u i hn⟩ ?_
   rintro ad rfl hn rfl
   obtain ⟨ad', cs, e1, _, eK, ecc⟩ := Kd.C_get hC es 0 (by omega) (by omega)
   injection e1 with e1
   subst e1
   obtain rfl := eK
   have x0 := ecc 0 _ rfl
   obtain ⟨ab, ao, asp⟩ := ad
   simp only [Int.toNat_zero, Nat.zero_mul, Nat.zero_add, Addr.add_zero'] at x0
   unfold World.cell? at x0
   rw [hb] at x0
   dsimp only at x0
   split at x0
   · cases x0
   · rcases ao with _ | ao
     · cases x0
     · cases x0
 · refine ⟨hbe.os, hbe.tape, hbe.output, by simpa [World.setCell] using hbe.size, fun i hi => ?_⟩
   have hi2 : i < w0.heap.size := by simpa [World.setCell] using hi
   have h1 := hbe.block i hi2
   by_cases e : i = b
   · subst e
     have h2 : w.heap[i]? = some (.cells #[.slice A n c] T (0, 0)) := h1.trans hb
     exact (blk_put (cs := #[.slice A n c]) h2 0 u rfl).trans (blk_put (cs := #[.slice A n c]) hb 0 u rfl).symm
   · exact (Below.heap_setCell w ⟨b, 0, none⟩ u i e).trans (h1.trans (Below.heap_setCell w0 ⟨b, 0, none⟩ u i e).symm)
theorem infoFN : (Tryz.prog.info? 35).map (fun i => (i.zero, i.size, i.bytes)) = some (some (.agg #[.slice none 0 0, .slice none 0 0, .int .i64 0, .slice none 0 0, .slice none 0 0, .slice none 0 0]), 6, 128) := by kernel_rfl
theorem parse1_eg : ∀ args w, (callFunc 54 args).run Tryz.prog w = .ok (.enter 54 args) w := enters_of Tryz.func54 (by kernel_rfl) rfl
theorem parse1_inv (b2 b3 : Nat) (w : World) : (invoke (.fn (.func 54) #[.pointer (some ⟨b2, 0, none⟩), .pointer (some ⟨b3, 0, none⟩)]) #[]).run Tryz.prog w = .ok (.enter 54 #[.pointer (some ⟨b2, 0, none⟩), .pointer (some ⟨b3, 0, none⟩)]) w := by
 simp [invoke, parse1_eg, go_sem]
section
variable {fn : Func} {tmps : Array Value} {R : Ending → World → Prop}
theorem parse_leave_none (hfn : fn.results = #[.cell 2 24, .cell 3 61]) {w : World} {n0 : Nat} {v c0 c1 c2 : Value} (h2 : tmps.getD 2 undef = .pointer (some ⟨n0, 0, none⟩)) (h3 : tmps.getD 3 undef = .pointer (some ⟨n0 + 1, 0, none⟩))
   (b2 : w.heap[n0]? = some (.cells #[v] 24 (0, 0))) (b3 : w.heap[n0 + 1]? = some (.cells #[c0, c1, c2] 61 (0, 0))) (hR : R (.returned (.tuple #[.agg #[v], .agg #[c0, c1, c2]])) w) :
   Leaves Tryz.prog fn tmps R [] .returning w :=
 ⟨_, results_cc hfn _ _ n0 (n0 + 1) 24 61 #[v] #[c0, c1, c2] (0, 0) (0, 0) _ _ h2 b2 Tryz.underlying24 rfl (by kernel_rfl) h3 b3 Tryz.underlying61 rfl (by kernel_rfl), hR⟩
theorem parse_leave_idle (hfn : fn.results = #[.cell 2 24, .cell 3 61]) {w : World} {n0 : Nat} {v c0 c1 c2 : Value} (h2 : tmps.getD 2 undef = .pointer (some ⟨n0, 0, none⟩)) (h3 : tmps.getD 3 undef = .pointer (some ⟨n0 + 1, 0, none⟩))
   (b2 : w.heap[n0]? = some (.cells #[v] 24 (0, 0))) (b3 : w.heap[n0 + 1]? = some (.cells #[c0, c1, c2] 61 (0, 0))) (hR : R (.returned (.tuple #[.agg #[v], .agg #[c0, c1, c2]])) w) :
   Leaves Tryz.prog fn tmps R [{ target := .fn (.func 54) #[.pointer (some ⟨n0, 0, none⟩), .pointer (some ⟨n0 + 1, 0, none⟩)], args := #[] }] .returning w := by
 refine leaves_cons (by simp) (parse1_inv n0 (n0 + 1) w) ((parse1_idle n0 (n0 + 1) w).mono ?_)
 rintro e u' w' ⟨rfl, rfl, rfl⟩
 exact parse_leave_none hfn h2 h3 b2 b3 hR
theorem parse_leave_panic (hfn : fn.results = #[.cell 2 24, .cell 3 61]) {w : World} {n0 : Nat} {v c0 c1 c2 : Value} (h2 : tmps.getD 2 undef = .pointer (some ⟨n0, 0, none⟩)) (h3 : tmps.getD 3 undef = .pointer (some ⟨n0 + 1, 0, none⟩))
   (b2 : w.heap[n0]? = some (.cells #[v] 24 (0, 0))) (b3 : w.heap[n0 + 1]? = some (.cells #[c0, c1, c2] 61 (0, 0))) (f : Flt) (hR : ∀ w', Below n0 w w' → R (.returned (.tuple #[.agg #[.slice none 0 0], .agg #[.int .i64 f.1, .int .i64 (f.2 : Int), .int .i64 0]])) w') :
   Leaves Tryz.prog fn tmps R [{ target := .fn (.func 54) #[.pointer (some ⟨n0, 0, none⟩), .pointer (some ⟨n0 + 1, 0, none⟩)], args := #[] }] (.panicking [{ v := fltV f, recovered := false }]) w := by
 refine leaves_cons (by simp) (parse1_inv n0 (n0 + 1) w) ((parse1_panicking f [] n0 (n0 + 1) v c0 c1 c2 (by omega) w b2 b3).mono ?_)
 rintro e u' w' ⟨rfl, rfl, q2, q3, qt⟩
 have hlt := blk_lt b2
 exact parse_leave_none hfn h2 h3 q2 q3 (hR w' (qt.below (Below.refl _ _) (by omega) (by rintro k (rfl | rfl) <;> omega)))
end
set_option maxHeartbeats 4000000 in
theorem parse_big (s : ByteArray) (w : World) (hs : 1048576 < s.size) (hm : s.size ≤ 9223372036854775807) : Calls Tryz.prog 33 #[.string s] w (ParsePost w s) := by
 have hp : parseP s = .error (9, 0) := by unfold parseP; rw [if_pos hs]
 have HP := Aside0.mk hp
 clear hp
 have d : decide ((s.size : Int) > 1048576) = true := decide_eq_true (by omega)
 have hmf := run_mkfn
 go_enter_defers Tryz.func33, Tryz.ntmps33
 go_wp2_with fail
 refine parse_leave_none rfl rfl (by simp) ?_ ?_ ⟨.slice none 0 0, 9, 0, rfl, ?_, ?_⟩
 · exact blk_alloc (blk_new w (.cells #[.slice none 0 0] 24 (0, 0))) (.cells #[.int .i64 9, .int .i64 0, .int .i64 0] 61 (0, 0))
 · have := blk_new (w.alloc (.cells #[.slice none 0 0] 24 (0, 0))) (.cells #[.int .i64 9, .int .i64 0, .int .i64 0] 61 (0, 0)); simpa using this
 · exact below_alloc (below_alloc (Below.refl _ _) _) _
 · rw [HP.out]; exact ⟨rfl, rfl, rfl⟩
set_option maxHeartbeats 4000000 in
theorem parse_small (s : ByteArray) (w : World) (hs : ¬ 1048576 < s.size) (hL : LaidR w) : Calls Tryz.prog 33 #[.string s] w (ParsePost w s) := by
 have d : decide ((s.size : Int) > 1048576) = false := decide_eq_false (by omega)
 have hmf := run_mkfn
 have HU := Aside0.mk Tryz.underlying22
 have HL := Aside0.mk hL
 clear hL
 go_enter_defers Tryz.func33, Tryz.ntmps33
 go_wp2_with fail
 refine (words_calls s (by omega) _ (HL.out.below (below_alloc (below_alloc (Below.refl _ _) _) _))).mono ?_
 rintro e w1 ⟨vw, rfl, hrw, hbw⟩
 obtain ⟨Aw, cw, rfl, _, hCw⟩ := Kd.R_reads hrw
 have hB := Aside0.mk (Below.trans (below_alloc (below_alloc (Below.refl w.heap.size w) (.cells #[.slice none 0 0] 24 (0, 0))) (.cells #[.int .i64 0, .int .i64 0, .int .i64 0] 61 (0, 0))) (hbw.mono (by simp; omega)))
 have B2 := Aside0.mk ((hbw.block w.heap.size (by simp; omega)).trans (blk_alloc (blk_new w (.cells #[.slice none 0 0] 24 (0, 0))) (.cells #[.int .i64 0, .int .i64 0, .int .i64 0] 61 (0, 0))))
 have B3 := Aside0.mk ((hbw.block (w.heap.size + 1) (by simp)).trans (show ((w.alloc (.cells #[.slice none 0 0] 24 (0, 0))).alloc (.cells #[.int .i64 0, .int .i64 0, .int .i64 0] 61 (0, 0))).heap[w.heap.size + 1]? = some (.cells #[.int .i64 0, .int .i64 0, .int .i64 0] 61 (0, 0)) from by have := blk_new (w.alloc (.cells #[.slice none 0 0] 24 (0, 0))) (.cells #[.int .i64 0, .int .i64 0, .int .i64 0] 61 (0, 0)); simpa using this))
 have LT1 := Aside0.mk (show w.heap.size + 2 ≤ w1.heap.size by have := hbw.size; simp at this; omega)
 obtain ⟨ws, hws⟩ : ∃ ws, wordsP s = ws := ⟨_, rfl⟩
 rw [hws] at hCw ⊢
 have hwf : ws.length ≤ 1048577 := by
   have := words_length s.data.toList []
   rw [data_length] at this
   unfold wordsP at hws
   subst hws
   omega
 have hww : ∀ x ∈ ws, x.size ≤ 1048576 := by
   intro x hx
   have := words_wee s.data.toList [] x (by unfold wordsP at hws; rw [hws]; exact hx)
   rw [data_length] at this
   simp at this
   omega
 have HPP := Aside0.mk (show parseP s = funsR ws (ws.length + 1) 0 [] by unfold parseP; rw [if_neg hs, hws])
 have HP := Aside0.mk (PS.made (c := cw) hCw hwf hww)
 have HLG := Aside0.mk (HL.out.below hB.out)
 clear hCw hrw hbw hww hs d hws
 obtain ⟨R, hR⟩ : ∃ R, funsR ws (ws.length + 1) 0 [] = R := ⟨_, rfl⟩
 rw [hR] at HPP
 have HR := Aside0.mk hR
 clear hR
 go_wp2_with fail
 go_loopg [] (ws.length + 1) (fun gg wr => ∃ (m kp : Nat) (l : List FF) (v : Value) (wg : World), m ≤ gg ∧ ws.length + 1 ≤ m + kp ∧ wg.heap.size = w1.heap.size ∧ Aside0 (Below w.heap.size w wg) ∧ Aside0 (PS wg wr w1.heap.size ws kp 0) ∧ Aside0 (wr.heap[w.heap.size]? = some (.cells #[v] 24 (0, 0))) ∧ Aside0 (wr.heap[w.heap.size + 1]? = some (.cells #[.int .i64 0, .int .i64 0, .int .i64 0] 61 (0, 0))) ∧ Aside0 (kFF.R 35 wr (w1.heap.size + 1) (fun _ => True) v l) ∧ Aside0 (l.length ≤ kp) ∧ Aside0 (w1.heap.size + 1 ≤ wr.heap.size) ∧ Aside0 (funsR ws m kp l = R))
 case atStart => exact ⟨ws.length + 1, 0, [], .slice none 0 0, w1, Nat.le_refl _, by omega, rfl, hB, HP, ⟨blk_alloc B2.out _⟩, ⟨blk_alloc B3.out _⟩, ⟨Kd.R_nil _ _ _ _ _⟩, ⟨Nat.le_refl _⟩, ⟨by simp⟩, HR⟩
 case round =>
   clear HP HR B2 B3 hB HLG
   obtain ⟨m, kp, l, v, wg, hmg, hmk, hgs, hB, HP, B2, B3, HRV, HLL, HSZ, HR⟩ := hrel
   have HLG := Aside0.mk (HL.out.below hB.out)
   have hmm : ∃ m', m = m' + 1 := ⟨m - 1, by have := HP.out.le; omega⟩
   obtain ⟨m, rfl⟩ := hmm
   obtain ⟨Av, cv, rfl⟩ := Kd.R_slice HRV.out
   have hr := HR.out
   unfold funsR at hr
   replace HR := Aside0.mk hr
   clear hr
   have c2 := (blk_cell B2.out 0).trans rfl
   go_upto_region 5 with fail
   first | (go_region_law (first | (refine Kd.R_append_step kFF (w0 := w3) (w1.heap.size + 1) (by rfl) (.tmp 16) (.tmp 19) 22 35 (.agg #[.slice none 0 0, .slice none 0 0, .int .i64 0, .slice none 0 0, .slice none 0 0, .slice none 0 0]) 128 rfl HU.out infoFN rfl (by show 0 < 6; decide) (by omega) (.slice Av l.length cv) l x [v0, v1, .int .i64 x.cells, v3, v4, v5] (fun _ => True) (fun k => wr.drew.heap.size ≤ k) rfl rfl (M_base HMX.out HSZ_.out HSB.out) (fun k hk => ⟨trivial, fun e => by have := R_bound_lt HRV.out _ e.symm; have h2 : wr.heap.size ≤ wr.drew.heap.size := Nat.le_refl _; omega⟩) (fun _ _ => trivial) HRV_.out (Below.refl _ _) HSZ_.out (by have := HLL.out; have := HP.out.le; have := HP.out.few; omega) ?_; intro v6 w6 hr6 hb6 hg6 hat6; obtain ⟨A1, c1, hv1⟩ := Kd.R_slice hr6; rw [show (l ++ [x]).length = l.length + 1 by simp] at hv1; subst hv1; have HR6 := Aside0.mk hr6; have HG6 := Aside0.mk hg6; have B26 := Aside0.mk ((hg6.block w.heap.size (blk_lt B2_.out) (fun e => by have := R_base HRV_.out _ e.symm; have := LT1.out; omega)).trans B2_.out); have B36 := Aside0.mk ((hg6.block (w.heap.size + 1) (blk_lt B3_.out) (fun e => by have := R_base HRV_.out _ e.symm; have := LT1.out; omega)).trans B3_.out); clear hr6 hb6 hg6 hat6; have c26 := (blk_cell B26.out 0).trans rfl; have f26 := blk_frozen B26.out 0) | (go_simp; go_at_call 55; refine (func_calls HP.out.drew HLG.out).mono ?_; intro e w3 hp; unfold POut at hp; rcases h1 : funcR ws kp with f | x; (focus (rw [h1] at hp; have hr := HR.out; rw [h1] at hr; have HR1 := Aside0.mk (show (.error f) = R from hr); clear hr h1; obtain ⟨rfl, hb⟩ := hp; have HR2 := Aside0.mk (show R = .error f from HR1.out.symm); have HBB := Aside0.mk hb; clear HR1 hb; go_wp2_with fail; exact parse_leave_panic rfl rfl rfl ((HBB.out.block w.heap.size (by have := LT1.out; omega)).trans ((HP.out.be.block w.heap.size (by have := LT1.out; omega)).symm.trans B2.out)) ((HBB.out.block (w.heap.size + 1) (by have := LT1.out; omega)).trans ((HP.out.be.block (w.heap.size + 1) (by have := LT1.out; omega)).symm.trans B3.out)) f (fun w' hb => ⟨.slice none 0 0, f.1, f.2, rfl, (hB.out.trans (HBB.out.mono (by have := LT1.out; omega))).trans hb, by rw [HPP.out, HR2.out]; exact ⟨rfl, rfl, rfl⟩⟩))); obtain ⟨x, kx⟩ := x; rw [h1] at hp; dsimp only at hp; obtain ⟨ub, rfl, retb, hp1, hk1⟩ := hp; have hr := HR.out; rw [h1] at hr; dsimp only at hr; have HR1 := Aside0.mk hr; have HLT := Aside0.mk (funcR_fwd _ _ _ h1); clear hr h1; obtain ⟨cs, rfl, hmx⟩ := retb; obtain ⟨v0, v1, v3, v4, v5, rfl, -⟩ := kFF_openM hmx; have HMX := Aside0.mk hmx; clear hmx; have B2_ := Aside0.mk (KeepBut.blk hk1 (blk_drew B2.out) (by have := LT1.out; omega) (by simp)); have B3_ := Aside0.mk (KeepBut.blk hk1 (blk_drew B3.out) (by have := LT1.out; omega) (by simp)); have HRV_ := Aside0.mk (HP.out.drew.keepR (by decide) (Kd.R_below HRV.out (below_drew1 (Below.refl _ _))) hk1); have HSB := Aside0.mk (show w1.heap.size + 1 ≤ wr.drew.heap.size from HSZ.out); have HSZ_ := Aside0.mk (show w1.heap.size + 1 ≤ w3.heap.size from Nat.le_trans HSZ.out hk1.1); have HP_ := Aside0.mk hp1; clear hp1 hk1; have c2' := (blk_cell B2_.out 0).trans rfl; have c2a := fun (ob : Obj) => (blk_cell (blk_alloc B2_.out ob) 0).trans rfl))) | fail
   all_goals
     clear HR
     have HR := HR1
     have hng : (Value.slice Av l.length cv).ownBlock ≠ some w1.heap.size := by
       obtain ⟨_, _, hb, _⟩ := HP_.out.st
       exact fun e => (Kd.R_ne HRV_.out hb (by decide)) e.symm
     have B2g := (HP.out.be.block w.heap.size (by have := LT1.out; omega)).symm.trans B2.out
     have HP7 := Aside0.mk (PS.both (HP_.out.grown_own HG6.out hng (fun k hk => by have := R_base HRV_.out k hk; omega)) B2g (.slice A1 (l.length + 1) c1))
     have B27 := Aside0.mk (show (w6.setCell ⟨w.heap.size, 0, none⟩ (.slice A1 (l.length + 1) c1)).heap[w.heap.size]? = some (.cells #[.slice A1 (l.length + 1) c1] 24 (0, 0)) from blk_put (cs := #[.slice Av l.length cv]) B26.out 0 (.slice A1 (l.length + 1) c1) rfl)
     have B37 := Aside0.mk (blk_far (p := ⟨w.heap.size, 0, none⟩) B36.out (by show w.heap.size + 1 ≠ w.heap.size; omega) (.slice A1 (l.length + 1) c1))
     have HR7 := Aside0.mk (R_setc HR6.out (show w.heap.size < w1.heap.size + 1 by have := LT1.out; omega) 0 (.slice A1 (l.length + 1) c1))
     have HB7 := Aside0.mk (below_set (j := 0) (v := .slice A1 (l.length + 1) c1) hB.out (Nat.le_refl _))
     have HZ7 := Aside0.mk (show w1.heap.size + 1 ≤ (w6.setCell ⟨w.heap.size, 0, none⟩ (.slice A1 (l.length + 1) c1)).heap.size by have := HSZ_.out; have := HG6.out.size; simp [World.setCell]; omega)
     have HL7 := Aside0.mk (show (l ++ [x]).length ≤ kx by have := HLL.out; have := HLT.out; simp; omega)
     clear hng B2g HR1 c26 f26 c2 c2' c2a
     obtain ⟨A0, c0, hbl, hg, hC⟩ := HP7.out.st
     have x0 := (blk_cell hbl 0).trans rfl
     have x1 := (blk_cell hbl 1).trans rfl
     clear hbl hg hC
     go_upto_region 6 with fail
     go_quiet (fail)
     clear x0 x1
     have hq : Below (w6.setCell ⟨w.heap.size, 0, none⟩ (.slice A1 (l.length + 1) c1)).heap.size (w6.setCell ⟨w.heap.size, 0, none⟩ (.slice A1 (l.length + 1) c1)) ((w6.setCell ⟨w.heap.size, 0, none⟩ (.slice A1 (l.length + 1) c1)).drewN nq) := pw_below_drewN (Below.refl _ _) nq
     have HP8 := Aside0.mk (HP7.out.below hq)
     have HR8 := Aside0.mk (Kd.R_below HR7.out hq)
     have B28 := Aside0.mk (blk_drewN B27.out nq)
     have B38 := Aside0.mk (blk_drewN B37.out nq)
     have HZ8 := Aside0.mk (Nat.le_trans HZ7.out hq.size)
     clear hq HP7 HR7 B27 B37 HZ7
     generalize (w6.setCell ⟨w.heap.size, 0, none⟩ (.slice A1 (l.length + 1) c1)).drewN nq = w8 at *
     by_cases hk : kx = ws.length
     · have dk : ((kx : Int) == (ws.length : Int)) = true := by rw [hk]; exact beq_self_eq_true _
       have hr := HR.out
       rw [if_pos hk] at hr
       have HR9 := Aside0.mk hr
       clear hr HR
       have y2 := (blk_cell B28.out 0).trans rfl
       have g2 := blk_frozen B28.out 0
       have hne1 : w.heap.size ≠ w.heap.size + 1 := by omega
       have hne2 : w.heap.size + 1 ≠ w.heap.size := by omega
       have B39 := blk_far (p := ⟨w.heap.size, 0, none⟩) B38.out hne2 (.slice A1 (l.length + 1) c1)
       have z0 := (blk_cell B39 0).trans rfl
       have z1 := (blk_cell B39 1).trans rfl
       have z2 := (blk_cell B39 2).trans rfl
       have g30 := blk_frozen B39 0
       have g31 := blk_frozen B39 1
       have g32 := blk_frozen B39 2
       go_wp2_with fail
       have hnn : w.heap.size < w1.heap.size + 1 := by have := LT1.out; omega
       have hnn2 : w.heap.size + 1 < w1.heap.size + 1 := by have := LT1.out; omega
       have q2 := blk_far (p := ⟨w.heap.size + 1, 2, none⟩) (blk_far (p := ⟨w.heap.size + 1, 1, none⟩) (blk_far (p := ⟨w.heap.size + 1, 0, none⟩) (blk_put (cs := #[(.slice A1 (l.length + 1) c1)]) B28.out 0 (.slice A1 (l.length + 1) c1) rfl) hne1 (.int .i64 0)) hne1 (.int .i64 0)) hne1 (.int .i64 0)
       have q3 := blk_put (cs := #[.int .i64 0, .int .i64 0, .int .i64 0]) (blk_put (cs := #[.int .i64 0, .int .i64 0, .int .i64 0]) (blk_put (cs := #[.int .i64 0, .int .i64 0, .int .i64 0]) B39 0 (.int .i64 0) rfl) 1 (.int .i64 0) rfl) 2 (.int .i64 0) rfl
       have qr := Kd.R_lower (base' := w.heap.size) (R_setc (R_setc (R_setc (R_setc HR8.out hnn 0 (.slice A1 (l.length + 1) c1)) hnn2 0 (.int .i64 0)) hnn2 1 (.int .i64 0)) hnn2 2 (.int .i64 0)) (by omega)
       have qb := below_set (j := 2) (v := .int .i64 0) (below_set (j := 1) (v := .int .i64 0) (below_set (j := 0) (v := .int .i64 0) (below_set (j := 0) (v := (.slice A1 (l.length + 1) c1)) (HB7.out.trans (HP8.out.be.mono (by have := LT1.out; simp [World.setCell]; omega))) (Nat.le_refl w.heap.size)) (Nat.le_succ w.heap.size)) (Nat.le_succ w.heap.size)) (Nat.le_succ w.heap.size)
       exact parse_leave_idle rfl rfl rfl q2 q3 ⟨(.slice A1 (l.length + 1) c1), 0, 0, rfl, qb, by rw [HPP.out, ← HR9.out]; exact ⟨rfl, rfl, qr⟩⟩
     · have dk : ((kx : Int) == (ws.length : Int)) = false := by
         rw [beq_eq_false_iff_ne]; omega
       have hr := HR.out
       rw [if_neg hk] at hr
       have HR9 := Aside0.mk hr
       clear hr HR
       go_wp2_with fail
       go_roundg m
       case measure => omega
       case rel => exact ⟨m, kx, l ++ [x], .slice A1 (l.length + 1) c1, wg.setCell ⟨w.heap.size, 0, none⟩ (.slice A1 (l.length + 1) c1), Nat.le_refl _, by have := HLT.out; omega, by simpa [World.setCell] using hgs, HB7, HP8, B28, B38, HR8, HL7, HZ8, HR9⟩
theorem parse_calls (s : ByteArray) (w : World) (hm : s.size ≤ 9223372036854775807) (hL : LaidR w) : Calls Tryz.prog 33 #[.string s] w (ParsePost w s) := by
 by_cases h : 1048576 < s.size
 · exact parse_big s w h hm
 · exact parse_small s w h hL
end Go.Proofs.YticndoihkfbpoaaGreatDoor
