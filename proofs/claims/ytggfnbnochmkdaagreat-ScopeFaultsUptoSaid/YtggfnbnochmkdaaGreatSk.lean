/- Package scope: what an item defines is noted. -/
import Derived.Test.YtggfnbnochmkdaaGreatSg
namespace Go.Proofs.YtggfnbnochmkdaaGreat
open Go Go.RowKit Go.Lib Go.Proofs.YtggfnbnochmkdaaGreatW.PrintWords Go.Proofs.YtggfnbnochmkdaaGreat.PScope
set_option maxRecDepth 100000
set_option linter.unusedSimpArgs false
set_option linter.unusedVariables false
theorem cell_turned {S : Nat → Prop} {w w1 : World} {a : Addr} {v : Value} (h : w.cell? a = some v) (ht : Turned S w w1) (hs : ∀ k, S k → ∀ cs t r, w.heap[k]? ≠ some (.cells cs t r)) : w1.cell? a = some v := by
 have hlt := World.block_lt_of_cell? w a h
 by_cases hS : S a.block
 · exfalso
   have hn := hs _ hS
   unfold World.cell? at h
   cases hh : w.heap[a.block]? with
   | none => rw [hh] at h; simp at h
   | some ob =>
     rw [hh] at h
     cases ob with
     | cells cs t r => exact absurd hh (hn cs t r)
     | _ => simp at h
 · have := ht.block a.block hlt hS
   simpa [World.cell?, this] using h
theorem C_str_turned {S : Nat → Prop} {w w1 : World} {A : Option Addr} {n : Nat} {xs : List ByteArray} (h : Kd.string.C w A n xs) (ht : Turned S w w1) (hs : ∀ k, S k → ∀ cs t r, w.heap[k]? ≠ some (.cells cs t r)) : Kd.string.C w1 A n xs :=
 ⟨h.1, h.2.1, fun hn => by
   obtain ⟨ad, e, hh⟩ := h.2.2 hn
   exact ⟨ad, e, fun j q hj => by obtain ⟨cs, k1, k2, k3⟩ := hh j q hj; exact ⟨cs, k1, k2, fun i u hu => cell_turned (k3 i u hu) ht hs⟩⟩⟩
theorem StrMap.nocells {w : World} {b : Nat} {f : ByteArray → Option Value} (h : StrMap w b f) : ∀ k, k = b → ∀ cs t r, w.heap[k]? ≠ some (.cells cs t r) := by
 intro k hk cs t r e
 subst hk
 obtain ⟨es, clock, hb, _⟩ := h
 rw [hb] at e; cases e
theorem C_str_map {w w1 : World} {A : Option Addr} {n b : Nat} {xs : List ByteArray} {f : ByteArray → Option Value} (h : Kd.string.C w A n xs) (ht : Turned (fun k => k = b) w w1) (hm : StrMap w b f) : Kd.string.C w1 A n xs := C_str_turned h ht hm.nocells
theorem C_as {α : Type} {d : Kd α} {W w2 : World} {A : Option Addr} {n : Nat} {xs : List α} {o' : Obj} (h : d.C W A n xs) (hg : (W.alloc o').grownBy w2 (some W.heap.size)) : d.C w2 A n xs := Kd.C_below h (below_as (Below.refl _ _) hg)
def CKept (w w' : World) : Prop := w.heap.size ≤ w'.heap.size ∧ ∀ (g : Nat) (cs : Array Value) (t : TypeId) (r : Nat × Nat), w.heap[g]? = some (.cells cs t r) → w'.heap[g]? = some (.cells cs t r)
theorem CKept.refl (w : World) : CKept w w := ⟨Nat.le_refl _, fun _ _ _ _ h => h⟩
theorem CKept.trans {a b c : World} (h : CKept a b) (k : CKept b c) : CKept a c := ⟨Nat.le_trans h.1 k.1, fun g cs t r e => k.2 g cs t r (h.2 g cs t r e)⟩
theorem CKept.of_below {w w1 : World} (hb : Below w.heap.size w w1) : CKept w w1 := ⟨hb.size, fun _ _ _ _ h => below_blk h hb⟩
theorem CKept.below {w W w1 : World} (h : CKept w W) (hb : Below W.heap.size W w1) : CKept w w1 := h.trans (.of_below hb)
theorem CKept.as {w W w2 : World} {o' : Obj} (h : CKept w W) (hg : (W.alloc o').grownBy w2 (some W.heap.size)) : CKept w w2 := h.below (below_as (Below.refl _ _) hg)
theorem CKept.map {w W w1 : World} {b : Nat} {f : ByteArray → Option Value} (h : CKept w W) (ht : Turned (fun k => k = b) W w1) (hm : StrMap W b f) : CKept w w1 :=
 h.trans ⟨ht.size, fun g cs t r e => ht.blk e (fun hg => hm.nocells g hg cs t r e)⟩
def addM (F : ByteArray → Option Int) (v : Int) (l : List ByteArray) : ByteArray → Option Int := fun s => if inB l s = true then some v else F s
theorem addM_nil (F : ByteArray → Option Int) (v : Int) : addM F v [] = F := by funext s; simp [addM, inB]
theorem addM_snoc (F : ByteArray → Option Int) (v : Int) (l : List ByteArray) (z : ByteArray) (k : Nat) (h : k < l.length) : mupd (addM F v (l.take k)) (l.getD k z) v = addM F v (l.take (k + 1)) := by
 funext s
 unfold mupd addM
 rw [take_snoc' l z k h]
 by_cases e : s = l.getD k z
 · rw [if_pos e, if_pos ((inB_iff _ _).2 (by rw [e]; simp))]
 · rw [if_neg e]
   by_cases e2 : s ∈ l.take k
   · rw [if_pos ((inB_iff _ _).2 e2), if_pos ((inB_iff _ _).2 (List.mem_append.2 (.inl e2)))]
   · rw [if_neg (by rw [inB_iff]; exact e2), if_neg (by rw [inB_iff, List.mem_append]; rintro (h | h); exact e2 h; exact e (by simpa using h))]
theorem freshL_no (P : ByteArray → Bool) (l : List ByteArray) (z : ByteArray) (k : Nat) (h : k < l.length) (hn : addL P (l.take k) (l.getD k z) = true) : freshL P l = false := by
 have h1 := freshL_step P l z k h
 rw [hn] at h1
 have h2 : freshL P (l.take (k + 1)) = false := by rw [h1]; rfl
 cases hc : freshL P l with
 | false => rfl
 | true =>
   exfalso
   unfold freshL unlikeB at hc h2
   simp only [Bool.and_eq_true, decide_eq_true_eq, Bool.not_eq_true'] at hc
   have h3 : (l.take (k + 1)).Nodup := List.Sublist.nodup (List.take_sublist _ _) hc.1
   have h4 : (l.take (k + 1)).any P = false := by
     rw [List.any_eq_false] at hc ⊢
     intro x hx
     exact hc.2 x (List.mem_of_mem_take hx)
   rw [h4] at h2
   simp [h3] at h2
theorem freshL_yes (P : ByteArray → Bool) (l : List ByteArray) (z : ByteArray) (k : Nat) (h : k < l.length) (hy : freshL P (l.take k) = true) (hn : addL P (l.take k) (l.getD k z) = false) : freshL P (l.take (k + 1)) = true := by
 rw [freshL_step P l z k h, hn, hy]; rfl
theorem freshL_nil (P : ByteArray → Bool) : freshL P [] = true := by simp [freshL, unlikeB]
theorem addM_some (F : ByteArray → Option Int) (v : Int) (l : List ByteArray) (s : ByteArray) : (addM F v l s).isSome = addL (fun t => (F t).isSome) l s := by
 unfold addM addL
 cases inB l s <;> simp
theorem upto_stepN {α : Type} {P : α → Bool} {l : List α} {z y : α} {k : Nat} (h : ∀ j, j < k → P (l.getD j z) = false) (e : l.getD k z = y) (hy : P y = false) : ∀ j, j < k + 1 → P (l.getD j z) = false := by
 intro j hj
 by_cases hjk : j = k
 · subst hjk; rw [e]; exact hy
 · exact h j (by omega)
def stNames (x : S47) : List ByteArray := x.f1.map (fun s => s.f0)
def defB (m : Mp) (vs : ByteArray → Option Int) (x : S47) (l : List ByteArray) : Bool :=
 freshL (fun s => (vs s).isSome) l && (if x.f1.length = 0 then (((l.length : Int) == 1) || ((x.f0.f1.f0 == 14) || (x.f0.f1.f0 == 15))) else (freshL m.states (stNames x) && (!(stNames x).any m.cons && x.f1.all (fun s => stDefB s l x.f1))))
def defM (m : Mp) (x : S47) : Mp := { m with states := addL m.states (stNames x) }
theorem defB_no1 {m : Mp} {vs : ByteArray → Option Int} {x : S47} {l : List ByteArray} (h : freshL (fun s => (vs s).isSome) l = false) : defB m vs x l = false := by unfold defB; rw [h]; rfl
theorem defB_none {m : Mp} {vs : ByteArray → Option Int} {x : S47} {l : List ByteArray} (h : freshL (fun s => (vs s).isSome) l = true) (e : x.f1.length = 0) : defB m vs x l = (((l.length : Int) == 1) || ((x.f0.f1.f0 == 14) || (x.f0.f1.f0 == 15))) := by unfold defB; rw [h, if_pos e]; rfl
theorem defB_some {m : Mp} {vs : ByteArray → Option Int} {x : S47} {l : List ByteArray} (h : freshL (fun s => (vs s).isSome) l = true) (e : ¬ x.f1.length = 0) : defB m vs x l = (freshL m.states (stNames x) && (!(stNames x).any m.cons && x.f1.all (fun s => stDefB s l x.f1))) := by unfold defB; rw [h, if_neg e]; rfl
theorem defM_none {m : Mp} {x : S47} (e : x.f1.length = 0) : defM m x = m := by
 have h : x.f1 = [] := List.length_eq_zero_iff.1 e
 unfold defM stNames; rw [h, List.map_nil, addL_nil]
theorem any_no {α : Type} {l : List α} {q : α → Bool} {z : α} (h : ∀ i, i < l.length → q (l.getD i z) = false) : l.any q = false := any_getD_false l q z h
theorem map_getD' {α β : Type} (l : List α) (f : α → β) (z : α) (z' : β) (k : Nat) (h : k < l.length) : (l.map f).getD k z' = f (l.getD k z) := by
 simp [List.getD_eq_getElem?_getD, List.getElem?_eq_getElem h]
theorem def1_eg : ∀ args w, (callFunc 54 args).run Tryz.prog w = .ok (.enter 54 args) w := enters_of Tryz.func54 (by kernel_rfl) rfl
set_option maxHeartbeats 4000000 in
theorem def1_calls (s : S65) (csx : List Value) (w : World) (hK : k65.K w s csx) (l : List ByteArray) (A : Option Addr) (c : Nat) (hC : Kd.string.C w A l.length l) (hlc : l.length ≤ c) (x : S47) (A6 : Option Addr) (c6 : Nat) (A0 : Option Addr) (c0 : Nat) (A4 : Option Addr) (c4 : Nat) (A5 : Option Addr) (c5 : Nat) (hS : k65.C w A6 x.f1.length x.f1) (hl : s.f1.length ≤ 24) (g5 g3 : Nat)
   (h5 : w.heap[g5]? = some (.cells #[.slice A l.length c] 32 (0, 0))) (h3 : w.heap[g3]? = some (.cells #[.slice A0 (x.f0.f0).length c0, .int .i64 x.f0.f1.f0, .string x.f0.f1.f1, .int .i64 x.f0.f1.f2, .slice A4 (x.f0.f1.f3).length c4, .slice A5 (x.f0.f1.f4).length c5, .slice A6 (x.f1).length c6] 47 (0, 0))) :
   Calls Tryz.prog 54 #[.agg csx.toArray, .pointer (some ⟨g5, 0, none⟩), .pointer (some ⟨g3, 0, none⟩)] w fun e w' => e = .returned (.bool (!stDefB s l x.f1)) ∧ Below w.heap.size w w' := by
 have HS := Aside0.mk (fun W (hB : Below w.heap.size w W) => sstate_calls s l x.f1 W csx (Kd.K_below _ hB hK) A c (Kd.C_below hC hB) hlc A6 c6 (Kd.C_below hS hB) hl)
 obtain ⟨sA1, sc1, sA2, sc2, rfl, sl1, sg1, sl2, sg2⟩ := k65_open hK
 clear hK sl1 sg1 sl2 sg2 hS hC
 have HB := Aside0.mk (Below.refl w.heap.size w)
 have B5 := Aside0.mk h5; have B3 := Aside0.mk h3
 clear h5 h3
 have hu := Tryz.underlying65; have hu2 := Tryz.underlying47
 generalize stDefB s l x.f1 = b at HS ⊢
 go_enter Tryz.func54, Tryz.ntmps54
 go_wp2_with ((with_reducible refine gate_dst (N := 3) rfl ?_); refine box_event ?hg (N := 3) ?hd (cs := #[.string s.f0, .slice sA1 (s.f1).length sc1, .slice sA2 (s.f2).length sc2]) (t := 65) ?hr ?_; (case hd => rfl); (case hg => rfl); (case hr => first | (go_simp; done) | (go_simp; rfl)); intro gs hg_ w_ hbox hb; replace B5 := Aside0.mk (below_blk B5.out hb); replace B3 := Aside0.mk (below_blk B3.out hb); have BS := Aside0.mk hbox; have LBS := Aside0.mk ((by rw [hg_]; exact below_size HB.out) : w.heap.size ≤ gs); replace HB := Aside0.mk (below_step HB.out hb); clear hb hbox hg_; have cs_0 := (blk_cell BS.out 0).trans rfl; have cs_1 := (blk_cell BS.out 1).trans rfl; have cs_2 := (blk_cell BS.out 2).trans rfl; have c5_0 := (blk_cell B5.out 0).trans rfl; have c3_0 := (blk_cell B3.out 0).trans rfl; have c3_1 := (blk_cell B3.out 1).trans rfl; have c3_2 := (blk_cell B3.out 2).trans rfl; have c3_3 := (blk_cell B3.out 3).trans rfl; have c3_4 := (blk_cell B3.out 4).trans rfl; have c3_5 := (blk_cell B3.out 5).trans rfl; have c3_6 := (blk_cell B3.out 6).trans rfl)
 refine (HS.out _ HB.out).mono ?_
 rintro e w5 ⟨rfl, hb⟩
 go_wp2_with fail
 go_ret
 exact ⟨rfl, below_step HB.out hb⟩
theorem def_any (w0 W : World) (l : List ByteArray) (A : Option Addr) (c : Nat) (hC : Kd.string.C W A l.length l) (hlc : l.length ≤ c) (x : S47) (A6 : Option Addr) (c6 : Nat) (A0 : Option Addr) (c0 : Nat) (A4 : Option Addr) (c4 : Nat) (A5 : Option Addr) (c5 : Nat) (hS : k65.C w0 A6 x.f1.length x.f1) (hl : ∀ i, i < x.f1.length → (x.f1.getD i z65).f1.length ≤ 24) (g5 g3 : Nat)
   (hB : Below w0.heap.size w0 W) (h5 : W.heap[g5]? = some (.cells #[.slice A l.length c] 32 (0, 0))) (h3 : W.heap[g3]? = some (.cells #[.slice A0 (x.f0.f0).length c0, .int .i64 x.f0.f1.f0, .string x.f0.f1.f1, .int .i64 x.f0.f1.f2, .slice A4 (x.f0.f1.f3).length c4, .slice A5 (x.f0.f1.f4).length c5, .slice A6 (x.f1).length c6] 47 (0, 0))) :
   Calls Tryz.prog 53 #[.slice A6 x.f1.length c6, .func (.func 54) #[] #[.pointer (some ⟨g5, 0, none⟩), .pointer (some ⟨g3, 0, none⟩)]] W fun e w' => e = .returned (.bool (x.f1.any (fun s => !stDefB s l x.f1))) ∧ Below W.heap.size W w' := by
 refine (ct_State _ _ def1_eg w0 W A6 c6 x.f1 hS (fun i => !stDefB (x.f1.getD i z65) l x.f1) (fun _ W' => Below W.heap.size W W') (fun _ W' => Below W.heap.size W W') (fun _ W' h => below_step hB h) ?_ (Below.refl _ _)).mono ?_
 · intro i W' ds hi hI hKd
   refine (def1_calls _ ds W' (Kd.K_below _ (below_step hB hI) hKd) l A c (Kd.C_below hC hI) hlc x A6 c6 A0 c0 A4 c4 A5 c5 (Kd.C_below hS (below_step hB hI)) (hl i hi) g5 g3 (below_blk h5 hI) (below_blk h3 hI)).mono ?_
   rintro e w' ⟨rfl, hb'⟩
   exact ⟨rfl, fun _ => below_step hI hb', fun _ => below_step hI hb'⟩
 · intro e w' h
   exact CtPost.any (q := fun s : S65 => !stDefB s l x.f1) (z := z65) (I := fun W' => Below W.heap.size W W') h
theorem all_any_not {α : Type} (l : List α) (q : α → Bool) : l.all q = !l.any (fun s => !q s) := by
 induction l with
 | nil => rfl
 | cons a r ih => simp only [List.all_cons, List.any_cons, ih, Bool.not_or, Bool.not_not]
def DefPost (B : Bk) (I : Ik) (pe pn : Value) (m : Mp) (n0 n1 n2 n3 n4 : Value) (vs fs : ByteArray → Option Int) (x : S47) (l : List ByteArray) (w0 w : World) (e : Ending) (w' : World) : Prop :=
 ∃ b, b = defB m vs x l ∧ e = .returned (.bool b) ∧ Below w0.heap.size w0 w' ∧ CKept w w' ∧ (b = true → IAt w0.heap.size w' B I pe pn (defM m x) n0 n1 n2 n3 n4 (addM vs 1 l) fs)
set_option maxHeartbeats 16000000 in
theorem idefines_walk (Ae An : Option Addr) (ne nn ce cn : Nat) (w0 : World) (B : Bk) (I : Ik) (m : Mp) (n0 n1 n2 n3 n4 : Value) (vs fs : ByteArray → Option Int) (x : S47) (l : List ByteArray) (w : World) (csx : List Value)
   (hde : ∀ W, Below w0.heap.size w0 W → Calls Tryz.prog 23 #[.agg csx.toArray] W (StrsPost l W))
   (hK : k47.K w0 x csx) (hw : Below w0.heap.size w0 w) (hi : IAt w0.heap.size w B I (.slice Ae ne ce) (.slice An nn cn) m n0 n1 n2 n3 n4 vs fs) (hl : ∀ i, i < x.f1.length → (x.f1.getD i z65).f1.length ≤ 24) :
   Calls Tryz.prog 32 #[.pointer (some ⟨I.inn, 0, none⟩), .agg csx.toArray] w (DefPost B I (.slice Ae ne ce) (.slice An nn cn) m n0 n1 n2 n3 n4 vs fs x l w0 w) := by
 obtain ⟨A0, c0, A4, c4, A5, c5, A6, c6, rfl, l0, g0, l4, g4, l5, g5, l6, g6⟩ := k47_open hK
 have L0 := Aside0.mk l0; have G0 := Aside0.mk g0; clear l0 g0
 have L4 := Aside0.mk l4; have G4 := Aside0.mk g4; clear l4 g4
 have L5 := Aside0.mk l5; have G5 := Aside0.mk g5; clear l5 g5
 have L6 := Aside0.mk l6; have G6 := Aside0.mk g6; clear l6 g6
 clear hK
 have HB := Aside0.mk hw; have HI := Aside0.mk hi; have HX := Aside0.mk (CKept.refl w)
 clear hw hi
 have HL24 := Aside0.mk hl; clear hl
 have HDB := Aside0.mk (fun h e => defB_none (m := m) (vs := vs) (x := x) (l := l) h e)
 have HDS := Aside0.mk (fun h e => defB_some (m := m) (vs := vs) (x := x) (l := l) h e)
 have hm1 := Tryz.underlying58
 have hm2 := Tryz.underlying57
 have hk := Tryz.underlying9
 have hz2 : ∀ W, (zeroValue 75).run Tryz.prog W = .ok (.agg #[.int .i64 0, .int .i64 0]) W := fun W => by kernel_rfl
 have hu1 := Tryz.underlying47
 have hu2 := Tryz.underlying65
 have hu3 := Tryz.underlying44
 have hu4 := Tryz.underlying42
 have hu5 := Tryz.underlying83
 have hu6 := Tryz.underlying60
 have hu7 := Tryz.underlying32
 have hu8 := Tryz.underlying75
 go_enter Tryz.func32, Tryz.ntmps32
 go_wp2_with ((with_reducible refine gate_dst (N := 3) rfl ?_); refine box_event ?hg (N := 3) ?hd (cs := #[.slice A0 (x.f0.f0).length c0, .int .i64 x.f0.f1.f0, .string x.f0.f1.f1, .int .i64 x.f0.f1.f2, .slice A4 (x.f0.f1.f3).length c4, .slice A5 (x.f0.f1.f4).length c5, .slice A6 (x.f1).length c6]) (t := 47) ?hr ?_; (case hd => rfl); (case hg => rfl); (case hr => first | (go_simp; done) | (go_simp; rfl)); intro g3 hg_ w_ hbox hb; have B3 := Aside0.mk hbox; have LB3 := Aside0.mk ((by rw [hg_]; exact below_size HB.out) : w0.heap.size ≤ g3); replace HI := Aside0.mk (HI.out.below hb); replace HX := Aside0.mk (HX.out.below hb); replace HB := Aside0.mk (below_step HB.out hb); clear hb hbox hg_; have c3_0 := (blk_cell B3.out 0).trans rfl; have c3_1 := (blk_cell B3.out 1).trans rfl; have c3_2 := (blk_cell B3.out 2).trans rfl; have c3_3 := (blk_cell B3.out 3).trans rfl; have c3_4 := (blk_cell B3.out 4).trans rfl; have c3_5 := (blk_cell B3.out 5).trans rfl; have c3_6 := (blk_cell B3.out 6).trans rfl)
 refine (hde _ HB.out).mono ?_
 rintro e w5 ⟨A, c, rfl, hlc, hC, hb⟩
 replace B3 := Aside0.mk (below_blk B3.out hb)
 replace HI := Aside0.mk (HI.out.below hb)
 replace HX := Aside0.mk (HX.out.below hb)
 replace HB := Aside0.mk (below_step HB.out hb)
 have HC := Aside0.mk hC; have HLC := Aside0.mk hlc
 clear hb hC hlc hde c3_0 c3_1 c3_2 c3_3 c3_4 c3_5 c3_6
 go_wp2_with ((with_reducible refine gate_store (t := 32) (p := 5) rfl ?_); refine store_one rfl rfl 32 _ _ rfl w5.heap.size _ 32 rfl (blk_new _ _) (.slice A l.length c) rfl rfl rfl rfl ?_; intro w6 hb2 hg2; replace B3 := Aside0.mk (blk_as B3.out hg2); replace HB := Aside0.mk (below_as HB.out hg2); replace HI := Aside0.mk (HI.out.as hg2); replace HX := Aside0.mk (HX.out.as hg2); replace HC := Aside0.mk (C_as HC.out hg2); obtain ⟨g5, hq_⟩ : ∃ g_, g_ = w5.heap.size := ⟨_, rfl⟩; rw [← hq_] at hb2; rw [← hq_]; have B5 := Aside0.mk hb2; clear hb2 hg2 hq_; have c5_0 := (blk_cell B5.out 0).trans rfl)
 clear c5_0
 have HI0 := Aside0.mk (show IAt w0.heap.size _ B I (.slice Ae ne ce) (.slice An nn cn) m n0 n1 n2 n3 n4 (addM vs 1 (l.take 0)) fs from by rw [List.take_zero, addM_nil]; exact HI.out); clear HI
 go_loopg [16] l.length (fun gg s_ wr => ∃ (kka : Nat), kka ≤ l.length ∧ l.length - kka ≤ gg ∧ s_ = .int .i64 kka ∧ Aside0 (Below w0.heap.size w0 wr) ∧ Aside0 (CKept w wr) ∧ Aside0 (wr.heap[g3]? = some (.cells #[.slice A0 (x.f0.f0).length c0, .int .i64 x.f0.f1.f0, .string x.f0.f1.f1, .int .i64 x.f0.f1.f2, .slice A4 (x.f0.f1.f3).length c4, .slice A5 (x.f0.f1.f4).length c5, .slice A6 (x.f1).length c6] 47 (0, 0))) ∧ Aside0 (wr.heap[g5]? = some (.cells #[.slice A l.length c] 32 (0, 0))) ∧ Aside0 (Kd.string.C wr A l.length l) ∧ Aside0 (IAt w0.heap.size wr B I (.slice Ae ne ce) (.slice An nn cn) m n0 n1 n2 n3 n4 (addM vs 1 (l.take kka)) fs) ∧ Aside0 (freshL (fun s => (vs s).isSome) (l.take kka) = true))
 case atStart => exact ⟨0, Nat.zero_le _, by omega, rfl, HB, HX, B3, B5, HC, HI0, ⟨by rw [List.take_zero]; exact freshL_nil _⟩⟩
 case round =>
   clear HB HX B3 B5 HC HI0
   obtain ⟨kka, hkka, hgkka, rfl, HB, HX, B3, B5, HC, HI0, NF⟩ := hrel
   have hmxa : l.length ≤ 9223372036854775807 := (HC.out).2.1
   by_cases hlta : kka < l.length
   · have hltza : (kka : Int) < (l.length : Int) := by omega
     have HI := HI0; clear HI0
     have HADD := Aside0.mk (addM_snoc vs 1 l (⟨#[]⟩ : ByteArray) kka hlta)
     have HNO := Aside0.mk (freshL_no (fun s => (vs s).isSome) l (⟨#[]⟩ : ByteArray) kka hlta)
     have HYES := Aside0.mk (freshL_yes (fun s => (vs s).isSome) l (⟨#[]⟩ : ByteArray) kka hlta NF.out)
     skip
     obtain ⟨sad, scs, rfl, _, sK, scc⟩ := Kd.C_get HC.out (⟨#[]⟩ : ByteArray) (kka : Int) (by omega) (by omega)
     obtain rfl := sK
     have sx0 := ((Below.refl wr.heap.size wr).cell (World.block_lt_of_cell? wr _ (scc 0 _ rfl))).trans (scc 0 _ rfl)
     simp only [show Kd.string.sz = 1 from rfl, Nat.mul_one, Nat.add_zero, Int.toNat_natCast] at sx0
     clear scc
     try simp only [Int.toNat_natCast] at sx0
     generalize Ys0 : l.getD kka (⟨#[]⟩ : ByteArray) = s at sx0
     have Ys := Aside0.mk Ys0; clear Ys0
     have h := HADD.out
     rw [Ys.out] at h
     have HADD2 := Aside0.mk h
     clear h
     have h := HNO.out
     rw [Ys.out, ← addM_some vs 1] at h
     have HNO2 := Aside0.mk h
     clear h
     have h := HYES.out
     rw [Ys.out, ← addM_some vs 1] at h
     have HYES2 := Aside0.mk h
     clear h
     clear HADD HNO HYES
     have ci0 := (blk_cell HI.out.inn 0).trans rfl
     have ci1 := (blk_cell HI.out.inn 1).trans rfl
     have ci2 := (blk_cell HI.out.inn 2).trans rfl
     have ci3 := (blk_cell HI.out.inn 3).trans rfl
     have ci4 := (blk_cell HI.out.inn 4).trans rfl
     have ci5 := (blk_cell HI.out.inn 5).trans rfl
     have ci6 := (blk_cell HI.out.inn 6).trans rfl
     have ci7 := (blk_cell HI.out.inn 7).trans rfl
     go_wp2_with fail
     refine (onceI_calls I.vars (addM vs 1 (l.take kka)) s 1 _ HI.out.vars).mono ?_
     rintro e w8 ⟨rfl, hm, ht⟩
     replace HC := Aside0.mk (C_str_map HC.out ht HI.out.vars)
     replace HX := Aside0.mk (HX.out.map ht HI.out.vars)
     replace B3 := Aside0.mk (ht.blk B3.out (fun e => (HI.out.vars.ne B3.out) e.symm))
     replace B5 := Aside0.mk (ht.blk B5.out (fun e => (HI.out.vars.ne B5.out) e.symm))
     replace HB := Aside0.mk (ht.below HB.out HB.out.size (fun k hk => by rw [hk]; exact HI.out.low.2.1))
     have HM := Aside0.mk hm; have HT := Aside0.mk ht
     clear hm ht sx0 ci0 ci1 ci2 ci3 ci4 ci5 ci6 ci7
     cases hsm : (addM vs 1 (l.take kka) s).isSome with
     | true =>
       have HR := Aside0.mk (defB_no1 (m := m) (x := x) (HNO2.out hsm)); clear hsm
       go_wp2_with fail
       go_ret
       exact ⟨false, HR.out.symm, rfl, HB.out, HX.out, fun h => absurd h (by simp)⟩
     | false =>
       have NF2 := Aside0.mk (HYES2.out hsm)
       replace HI := Aside0.mk (HI.out.vars' HT.out (F := addM vs 1 (l.take (kka + 1))) (by have h := HM.out; rw [onceF, hsm, if_neg (by simp), HADD2.out] at h; exact h))
       clear HM HT hsm
       go_wp2_with fail
       go_roundg (l.length - (kka + 1))
       case measure => omega
       case rel => exact ⟨kka + 1, by omega, by omega, by go_num, HB, HX, B3, B5, HC, HI, NF2⟩
   · have hltza : ¬ (kka : Int) < (l.length : Int) := by omega
     obtain rfl : kka = l.length := by omega
     have HI := HI0; clear HI0
     have h := HI.out
     rw [List.take_length] at h
     have HI2 := Aside0.mk h
     clear h
     have h := NF.out
     rw [List.take_length] at h
     have NF2 := Aside0.mk h
     clear h
     clear HI NF
     have HI := HI2; clear HI2
     by_cases e0 : x.f1.length = 0
     · have t0 : ((x.f1.length : Int) == 0) = true := by rw [e0]; rfl
       have HF := Aside0.mk (HDB.out NF2.out e0)
       have HM0 := Aside0.mk (defM_none (m := m) e0)
       clear e0 HDB HDS
       have c3_0 := (blk_cell B3.out 0).trans rfl
       have c3_1 := (blk_cell B3.out 1).trans rfl
       have c3_2 := (blk_cell B3.out 2).trans rfl
       have c3_3 := (blk_cell B3.out 3).trans rfl
       have c3_4 := (blk_cell B3.out 4).trans rfl
       have c3_5 := (blk_cell B3.out 5).trans rfl
       have c3_6 := (blk_cell B3.out 6).trans rfl
       have c5_0 := (blk_cell B5.out 0).trans rfl
       cases q1 : ((l.length : Int) == 1) with
       | true =>
         rw [q1] at HF
         go_wp2_with fail
         go_ret
         exact ⟨_, HF.out.symm, rfl, HB.out, HX.out, fun _ => by rw [HM0.out]; exact HI.out⟩
       | false =>
         rw [q1] at HF
         cases q2 : (x.f0.f1.f0 == 14) with
         | true =>
           rw [q2] at HF
           go_wp2_with fail
           go_ret
           exact ⟨_, HF.out.symm, rfl, HB.out, HX.out, fun _ => by rw [HM0.out]; exact HI.out⟩
         | false =>
           rw [q2] at HF
           cases q3 : (x.f0.f1.f0 == 15) with
           | true =>
             rw [q3] at HF
             go_wp2_with fail
             go_ret
             exact ⟨_, HF.out.symm, rfl, HB.out, HX.out, fun _ => by rw [HM0.out]; exact HI.out⟩
           | false =>
             rw [q3] at HF
             go_wp2_with fail
             go_ret
             exact ⟨_, HF.out.symm, rfl, HB.out, HX.out, fun _ => by rw [HM0.out]; exact HI.out⟩
     · have t0 : ((x.f1.length : Int) == 0) = false := beq_eq_false_iff_ne.2 (by omega)
       have HF := Aside0.mk (HDS.out NF2.out e0)
       clear e0 HDB HDS NF2
       obtain ⟨V, hV⟩ : ∃ V, V = addM vs 1 l := ⟨_, rfl⟩
       rw [← hV] at HI
       have HV := Aside0.mk hV; clear hV
       have HI0 := Aside0.mk (show IAt w0.heap.size _ B I (.slice Ae ne ce) (.slice An nn cn) { m with states := addL m.states ((stNames x).take 0) } n0 n1 n2 n3 n4 V fs from by rw [List.take_zero, addL_nil]; exact HI.out); clear HI
       have c3_0 := (blk_cell B3.out 0).trans rfl
       have c3_1 := (blk_cell B3.out 1).trans rfl
       have c3_2 := (blk_cell B3.out 2).trans rfl
       have c3_3 := (blk_cell B3.out 3).trans rfl
       have c3_4 := (blk_cell B3.out 4).trans rfl
       have c3_5 := (blk_cell B3.out 5).trans rfl
       have c3_6 := (blk_cell B3.out 6).trans rfl
       go_wp2_with fail
       clear c3_0 c3_1 c3_2 c3_3 c3_4 c3_5 c3_6
       go_loopg [52] x.f1.length (fun gg s_ wr => ∃ (kkb : Nat), kkb ≤ x.f1.length ∧ x.f1.length - kkb ≤ gg ∧ s_ = .int .i64 kkb ∧ Aside0 (Below w0.heap.size w0 wr) ∧ Aside0 (CKept w wr) ∧ Aside0 (wr.heap[g3]? = some (.cells #[.slice A0 (x.f0.f0).length c0, .int .i64 x.f0.f1.f0, .string x.f0.f1.f1, .int .i64 x.f0.f1.f2, .slice A4 (x.f0.f1.f3).length c4, .slice A5 (x.f0.f1.f4).length c5, .slice A6 (x.f1).length c6] 47 (0, 0))) ∧ Aside0 (wr.heap[g5]? = some (.cells #[.slice A l.length c] 32 (0, 0))) ∧ Aside0 (Kd.string.C wr A l.length l) ∧ Aside0 (IAt w0.heap.size wr B I (.slice Ae ne ce) (.slice An nn cn) { m with states := addL m.states ((stNames x).take kkb) } n0 n1 n2 n3 n4 V fs) ∧ Aside0 (freshL m.states ((stNames x).take kkb) = true) ∧ Aside0 (∀ j, j < kkb → m.cons ((stNames x).getD j (⟨#[]⟩ : ByteArray)) = false))
       case atStart => exact ⟨0, Nat.zero_le _, by omega, rfl, HB, HX, B3, B5, HC, HI0, ⟨by rw [List.take_zero]; exact freshL_nil _⟩, ⟨fun j hj => absurd hj (Nat.not_lt_zero _)⟩⟩
       case round =>
         clear HB HX B3 B5 HC HI0
         obtain ⟨kkb, hkkb, hgkkb, rfl, HB, HX, B3, B5, HC, HI0, NS, NC⟩ := hrel
         have hmxb : x.f1.length ≤ 9223372036854775807 := (G6.out).2.1
         by_cases hltb : kkb < x.f1.length
         · have hltzb : (kkb : Int) < (x.f1.length : Int) := by omega
           have HI := HI0; clear HI0
           have hln : (stNames x).length = x.f1.length := List.length_map _
           have hlt' : kkb < (stNames x).length := by rw [hln]; exact hltb
           have hnm : (stNames x).getD kkb (⟨#[]⟩ : ByteArray) = (x.f1.getD kkb z65).f0 := map_getD' x.f1 (fun s => s.f0) z65 (⟨#[]⟩ : ByteArray) kkb hltb
           have hadd := addP_addL m.states (stNames x) (⟨#[]⟩ : ByteArray) kkb hlt'
           have hno := freshL_no m.states (stNames x) (⟨#[]⟩ : ByteArray) kkb hlt'
           have hyes := freshL_yes m.states (stNames x) (⟨#[]⟩ : ByteArray) kkb hlt' NS.out
           have hany := any_getD_true (stNames x) m.cons (⟨#[]⟩ : ByteArray) kkb hlt'
           rw [hnm] at hadd hno hyes hany
           clear hlt' hln
           obtain ⟨yad, ycs, rfl, _, yK, ycc⟩ := Kd.C_get G6.out z65 (kkb : Int) (by omega) (by omega)
           have yK' := yK
           obtain ⟨yA1, yc1, yA2, yc2, rfl, yl1, yg1, yl2, yg2⟩ := k65_open yK'
           have yx0 := (HB.out.cell (World.block_lt_of_cell? w0 _ (ycc 0 _ rfl))).trans (ycc 0 _ rfl)
           have yx1 := (HB.out.cell (World.block_lt_of_cell? w0 _ (ycc 1 _ rfl))).trans (ycc 1 _ rfl)
           have yx2 := (HB.out.cell (World.block_lt_of_cell? w0 _ (ycc 2 _ rfl))).trans (ycc 2 _ rfl)
           rw [show (k65).sz = 3 from rfl, Nat.add_zero, Int.toNat_natCast] at yx0
           rw [show (k65).sz = 3 from rfl, Int.toNat_natCast, add_field _ _ 1 (by omega)] at yx1
           rw [show (k65).sz = 3 from rfl, Int.toNat_natCast, add_field _ _ 2 (by omega)] at yx2
           clear ycc
           try simp only [Int.toNat_natCast] at yx0 yx1 yx2 yK yl1 yg1 yl2 yg2
           generalize Yy0 : x.f1.getD kkb z65 = y at hnm hadd hno hyes hany yx0 yx1 yx2 yK yl1 yg1 yl2 yg2
           have Yy := Aside0.mk Yy0; clear Yy0
           have yL1 := Aside0.mk yl1; have yG1 := Aside0.mk yg1; clear yl1 yg1
           have yL2 := Aside0.mk yl2; have yG2 := Aside0.mk yg2; clear yl2 yg2
           have HSN2 := Aside0.mk hnm; clear hnm
           have HADD2 := Aside0.mk hadd; clear hadd
           have HNO2 := Aside0.mk hno; clear hno
           have HYES2 := Aside0.mk hyes; clear hyes
           have HANY2 := Aside0.mk hany; clear hany
           go_upto_region 13 with ((with_reducible refine gate_store (t := 65) (p := 9) rfl ?_); refine store_whole rfl rfl 65 _ _ rfl wr.heap.size _ 65 rfl (blk_new _ _) _ rfl rfl rfl (by simp [Value.oneCell']) ?_; intro w2 hb2 hg2; replace B3 := Aside0.mk (blk_as B3.out hg2); replace B5 := Aside0.mk (blk_as B5.out hg2); replace HB := Aside0.mk (below_as HB.out hg2); replace HI := Aside0.mk (HI.out.as hg2); replace HX := Aside0.mk (HX.out.as hg2); replace HC := Aside0.mk (C_as HC.out hg2); obtain ⟨g9, hq_⟩ : ∃ g_, g_ = wr.heap.size := ⟨_, rfl⟩; rw [← hq_] at hb2; rw [← hq_]; have B9 := Aside0.mk hb2; clear hb2 hg2 hq_; have c9_0 := (blk_cell B9.out 0).trans rfl; have c9_1 := (blk_cell B9.out 1).trans rfl; have c9_2 := (blk_cell B9.out 2).trans rfl)
           clear c9_0 c9_1 c9_2
           obtain ⟨Fc, hFc, hFp⟩ := HI.out.wat.cons
           have hgd : ∃ c : Int × Int, (menc encP Fc y.f0).getD (.agg #[.int .i64 0, .int .i64 0]) = .agg #[.int .i64 c.1, .int .i64 c.2] := by unfold menc; cases Fc y.f0 with | none => exact ⟨(0, 0), rfl⟩ | some y => exact ⟨y, rfl⟩
           obtain ⟨cc, hcc⟩ := hgd
           have hqc : (menc encP Fc y.f0).isSome = m.cons y.f0 := by rw [menc_isSome]; exact hFp _
           skip
           have hl1 := (show StrMap w2.drew B.cons (menc encP Fc) from hFc).look hm2 hk (hz2 _) y.f0 true
           have hl2 := fun o => (show StrMap (w2.alloc o).drew B.cons (menc encP Fc) from (StrMap.below hFc (below_alloc (Below.refl _ _) o)).drew).look hm2 hk (hz2 _) y.f0 true
           simp only [if_true, hcc, hqc] at hl1 hl2
           obtain ⟨qc, hcon⟩ : ∃ q, m.cons y.f0 = q := ⟨_, rfl⟩
           rw [hcon] at hl1 hl2
           have HCON := Aside0.mk hcon
           clear hcon hcc hqc hFc hFp
           have c9_0 := (blk_cell B9.out 0).trans rfl
           have c9_1 := (blk_cell B9.out 1).trans rfl
           have c9_2 := (blk_cell B9.out 2).trans rfl
           have cw0 := (blk_cell HI.out.wat.wd 0).trans rfl
           have cw1 := (blk_cell HI.out.wat.wd 1).trans rfl
           have cw2 := (blk_cell HI.out.wat.wd 2).trans rfl
           have cw3 := (blk_cell HI.out.wat.wd 3).trans rfl
           have cw4 := (blk_cell HI.out.wat.wd 4).trans rfl
           have cw5 := (blk_cell HI.out.wat.wd 5).trans rfl
           have ci0 := (blk_cell HI.out.inn 0).trans rfl
           have ci1 := (blk_cell HI.out.inn 1).trans rfl
           have ci2 := (blk_cell HI.out.inn 2).trans rfl
           have ci3 := (blk_cell HI.out.inn 3).trans rfl
           have ci4 := (blk_cell HI.out.inn 4).trans rfl
           have ci5 := (blk_cell HI.out.inn 5).trans rfl
           have ci6 := (blk_cell HI.out.inn 6).trans rfl
           have ci7 := (blk_cell HI.out.inn 7).trans rfl
           have d0 := fun o => (blk_cell (blk_alloc HI.out.inn o) 0).trans rfl
           have d1 := fun o => (blk_cell (blk_alloc HI.out.wat.wd o) 2).trans rfl
           have d3 := fun o => (blk_cell (blk_alloc B9.out o) 0).trans rfl
           have lt1 : B.wd < w2.heap.size := blk_lt HI.out.wat.wd
           have lt2 : I.inn < w2.heap.size := blk_lt HI.out.inn
           have lt3 : g9 < w2.heap.size := blk_lt B9.out
           have ne1 : B.wd ≠ w2.heap.size := by omega
           have ne2 : I.inn ≠ w2.heap.size := by omega
           have ne3 : g9 ≠ w2.heap.size := by omega
           go_cut [10, 11] from 56 to 68 (fun s10 s11 wx => s11 = .bool qc ∧ Aside0 (Below w2.heap.size w2 wx))
           case first =>
             go_region_with (fail)
             all_goals
               go_wp2_with fail
               go_meet
               case rel => exact ⟨rfl, ⟨by repeat (first | exact Below.refl _ _ | apply below_alloc | apply below_drew1 | refine below_set ?_ (Nat.le_refl _))⟩⟩
           case rest =>
             obtain ⟨rfl, hb⟩ := hcut
             clear hl1 hl2 d0 d1 d3 lt1 lt2 lt3 ne1 ne2 ne3
             clear c9_0 c9_1 c9_2
             clear ci0 ci1 ci2 ci3 ci4 ci5 ci6 ci7
             clear cw0 cw1 cw2 cw3 cw4 cw5
             replace HI := Aside0.mk (HI.out.below hb.out)
             replace HC := Aside0.mk (Kd.C_below HC.out hb.out)
             replace HX := Aside0.mk (HX.out.below hb.out)
             replace HB := Aside0.mk (below_step HB.out hb.out)
             replace B3 := Aside0.mk (below_blk B3.out hb.out)
             replace B5 := Aside0.mk (below_blk B5.out hb.out)
             replace B9 := Aside0.mk (below_blk B9.out hb.out)
             clear hb
             cases qc with
             | true =>
               have HR := Aside0.mk (show defB m vs x l = false by rw [HF.out, HANY2.out HCON.out]; cases freshL m.states (stNames x) <;> rfl)
               go_wp2_with fail
               go_quiet (fail)
               have HB_ := Aside0.mk (pw_below_drewN HB.out nq); clear HB
               have HX_ := Aside0.mk (HX.out.below (pw_below_drewN (Below.refl _ _) nq)); clear HX
               generalize World.drewN wc nq = w9 at HB_ HX_ ⊢
               go_wp2_with fail
               go_ret
               exact ⟨false, HR.out.symm, rfl, HB_.out, HX_.out, fun h => absurd h (by simp)⟩
             | false =>
               have c9_0 := (blk_cell B9.out 0).trans rfl
               have c9_1 := (blk_cell B9.out 1).trans rfl
               have c9_2 := (blk_cell B9.out 2).trans rfl
               have cw0 := (blk_cell HI.out.wat.wd 0).trans rfl
               have cw1 := (blk_cell HI.out.wat.wd 1).trans rfl
               have cw2 := (blk_cell HI.out.wat.wd 2).trans rfl
               have cw3 := (blk_cell HI.out.wat.wd 3).trans rfl
               have cw4 := (blk_cell HI.out.wat.wd 4).trans rfl
               have cw5 := (blk_cell HI.out.wat.wd 5).trans rfl
               have ci0 := (blk_cell HI.out.inn 0).trans rfl
               have ci1 := (blk_cell HI.out.inn 1).trans rfl
               have ci2 := (blk_cell HI.out.inn 2).trans rfl
               have ci3 := (blk_cell HI.out.inn 3).trans rfl
               have ci4 := (blk_cell HI.out.inn 4).trans rfl
               have ci5 := (blk_cell HI.out.inn 5).trans rfl
               have ci6 := (blk_cell HI.out.inn 6).trans rfl
               have ci7 := (blk_cell HI.out.inn 7).trans rfl
               go_wp2_with fail
               go_still_tail 11, (by kernel_rfl)
               change wpList _ _ _ _ _ (World.drew wc)
               have HB_ := Aside0.mk (below_drew1 HB.out); clear HB
               have HX_ := Aside0.mk (CKept.below HX.out (below_drew1 (Below.refl _ _))); clear HX
               have HI_ := Aside0.mk (IAt.drew HI.out); clear HI
               have B3_ := Aside0.mk (blk_drew B3.out); clear B3
               have B5_ := Aside0.mk (blk_drew B5.out); clear B5
               have B9_ := Aside0.mk (blk_drew B9.out); clear B9
               have HC_ := Aside0.mk (Kd.C_drew HC.out); clear HC
               generalize World.drew wc = w9 at HB_ HX_ HI_ B3_ B5_ B9_ HC_ ⊢
               have HB := HB_; clear HB_
               have HX := HX_; clear HX_
               have HI := HI_; clear HI_
               have B3 := B3_; clear B3_
               have B5 := B5_; clear B5_
               have B9 := B9_; clear B9_
               have HC := HC_; clear HC_
               clear c9_0 c9_1 c9_2
               clear ci0 ci1 ci2 ci3 ci4 ci5 ci6 ci7
               clear cw0 cw1 cw2 cw3 cw4 cw5
               obtain ⟨Fs, hFs, hFp⟩ := HI.out.wat.states
               go_wp2_with fail
               refine (onceI_calls B.states Fs y.f0 1 _ hFs).mono ?_
               rintro e w10 ⟨rfl, hm, ht⟩
               have hmp := onceF_pres hFp y.f0 1
               replace HC := Aside0.mk (C_str_map HC.out ht hFs)
               replace HX := Aside0.mk (HX.out.map ht hFs)
               replace B3 := Aside0.mk (ht.blk B3.out (fun e => (hFs.ne B3.out) e.symm))
               replace B5 := Aside0.mk (ht.blk B5.out (fun e => (hFs.ne B5.out) e.symm))
               replace HB := Aside0.mk (ht.below HB.out HB.out.size (fun k hk => by rw [hk]; exact HI.out.wat.low.2.2.2.2))
               replace HI := Aside0.mk (HI.out.states' ht (P := addL m.states ((stNames x).take (kkb + 1))) ⟨_, hm, fun s => (hmp s).trans (by rw [← HADD2.out])⟩)
               have hfs := hFp y.f0
               clear hm ht hmp hFp hFs B9
               cases hq : addL m.states ((stNames x).take kkb) y.f0 with
               | true =>
                 have HR := Aside0.mk (show defB m vs x l = false by rw [HF.out, HNO2.out hq]; rfl)
                 have hfs2 : (Fs y.f0).isSome = true := hfs.trans hq
                 rw [hfs2]
                 clear hfs hfs2 hq
                 go_wp2_with fail
                 go_ret
                 exact ⟨false, HR.out.symm, rfl, HB.out, HX.out, fun h => absurd h (by simp)⟩
               | false =>
                 have NS2 := Aside0.mk (HYES2.out hq)
                 have NC2 := Aside0.mk (upto_stepN (P := m.cons) (l := stNames x) (z := (⟨#[]⟩ : ByteArray)) NC.out HSN2.out HCON.out)
                 have hfs2 : (Fs y.f0).isSome = false := hfs.trans hq
                 rw [hfs2]
                 clear hfs hfs2 hq
                 go_wp2_with fail
                 go_roundg (x.f1.length - (kkb + 1))
                 case measure => omega
                 case rel => exact ⟨kkb + 1, by omega, by omega, by go_num, HB, HX, B3, B5, HC, HI, NS2, NC2⟩
         · have hltzb : ¬ (kkb : Int) < (x.f1.length : Int) := by omega
           obtain rfl : kkb = x.f1.length := by omega
           have HLN := Aside0.mk (show (stNames x).length = x.f1.length from List.length_map _)
           have h := HI0.out
           rw [← HLN.out, List.take_length] at h
           have HI2 := Aside0.mk h
           clear h
           have h := NS.out
           rw [← HLN.out, List.take_length] at h
           have HFS := Aside0.mk h
           clear h
           have HNA := Aside0.mk (any_no (l := stNames x) (q := m.cons) (z := (⟨#[]⟩ : ByteArray)) (fun i hi => NC.out i (by rw [HLN.out] at hi; exact hi)))
           clear HI0 NS NC
           have HF2 := Aside0.mk (show defB m vs x l = x.f1.all (fun s => stDefB s l x.f1) by rw [HF.out, HFS.out, HNA.out]; rfl)
           clear HF HFS HNA
           have han := fun (W : World) (hB : Below w0.heap.size w0 W) (hC : Kd.string.C W A l.length l) (h5 : W.heap[g5]? = some (.cells #[.slice A l.length c] 32 (0, 0))) (h3 : W.heap[g3]? = some (.cells #[.slice A0 (x.f0.f0).length c0, .int .i64 x.f0.f1.f0, .string x.f0.f1.f1, .int .i64 x.f0.f1.f2, .slice A4 (x.f0.f1.f3).length c4, .slice A5 (x.f0.f1.f4).length c5, .slice A6 (x.f1).length c6] 47 (0, 0))) => def_any w0 W l A c hC HLC.out x A6 c6 A0 c0 A4 c4 A5 c5 G6.out HL24.out g5 g3 hB h5 h3
           have HAN := Aside0.mk (all_any_not x.f1 (fun s => stDefB s l x.f1))
           generalize x.f1.any (fun s => !stDefB s l x.f1) = an at han HAN
           have c3_0 := (blk_cell B3.out 0).trans rfl
           have c3_1 := (blk_cell B3.out 1).trans rfl
           have c3_2 := (blk_cell B3.out 2).trans rfl
           have c3_3 := (blk_cell B3.out 3).trans rfl
           have c3_4 := (blk_cell B3.out 4).trans rfl
           have c3_5 := (blk_cell B3.out 5).trans rfl
           have c3_6 := (blk_cell B3.out 6).trans rfl
           go_wp2_with fail
           refine (han _ HB.out HC.out B5.out B3.out).mono ?_
           rintro e w10 ⟨rfl, hb⟩
           replace HI2 := Aside0.mk (HI2.out.below hb)
           replace HX := Aside0.mk (HX.out.below hb)
           replace HB := Aside0.mk (below_step HB.out hb)
           clear hb han c3_0 c3_1 c3_2 c3_3 c3_4 c3_5 c3_6
           go_wp2_with fail
           go_ret
           exact ⟨!an, by rw [HF2.out, HAN.out], rfl, HB.out, HX.out, fun _ => by rw [← HV.out]; exact HI2.out⟩
end Go.Proofs.YtggfnbnochmkdaaGreat
