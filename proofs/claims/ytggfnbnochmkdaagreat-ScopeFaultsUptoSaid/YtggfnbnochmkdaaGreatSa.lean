/- JOINED of 3 texts: Package scope: maps of names: begin, once, unlike. Package scope: begin, unlike, enum. Package scope: enum. -/
import Derived.Test.YtggfnbnochmkdaaGreatTh
import Derived.StillTailTactics
namespace Go.Proofs.YtggfnbnochmkdaaGreat
open Go Go.RowKit Go.Lib Go.Proofs.YtggfnbnochmkdaaGreatW.PrintWords Go.Proofs.YtggfnbnochmkdaaGreat.PScope
set_option maxRecDepth 100000
set_option linter.unusedSimpArgs false
set_option linter.unusedVariables false
def encI (x : Int) : Value := .int .i64 x
def encP (x : Int × Int) : Value := .agg #[.int .i64 x.1, .int .i64 x.2]
def Pres {α : Type} (enc : α → Value) (w : World) (b : Nat) (P : ByteArray → Bool) : Prop := ∃ F : ByteArray → Option α, StrMap w b (menc enc F) ∧ ∀ s, (F s).isSome = P s
theorem Pres.lt {α : Type} {enc : α → Value} {w : World} {b : Nat} {P : ByteArray → Bool} (h : Pres enc w b P) : b < w.heap.size := by obtain ⟨F, h, _⟩ := h; exact h.lt
theorem Pres.kept {α : Type} {enc : α → Value} {w w1 : World} {b : Nat} {P : ByteArray → Bool} (h : Pres enc w b P) (hb : w1.heap[b]? = w.heap[b]?) : Pres enc w1 b P := by obtain ⟨F, h, hf⟩ := h; exact ⟨F, h.kept hb, hf⟩
theorem Pres.turned {α : Type} {enc : α → Value} {S : Nat → Prop} {w w1 : World} {b : Nat} {P : ByteArray → Bool} (h : Pres enc w b P) (ht : Turned S w w1) (hs : ¬ S b) : Pres enc w1 b P := h.kept (ht.block b h.lt hs)
theorem StrMap.turned {S : Nat → Prop} {w w1 : World} {b : Nat} {f : ByteArray → Option Value} (h : StrMap w b f) (ht : Turned S w w1) (hs : ¬ S b) : StrMap w1 b f := h.kept (ht.block b h.lt hs)
theorem menc_isSome {α : Type} (enc : α → Value) (F : ByteArray → Option α) (s : ByteArray) : (menc enc F s).isSome = (F s).isSome := by unfold menc; cases F s <;> rfl
theorem menc_none {α : Type} (enc : α → Value) : menc enc (fun _ => none) = fun _ => none := rfl
def onceF {α : Type} (F : ByteArray → Option α) (s : ByteArray) (v : α) : ByteArray → Option α := if (F s).isSome then F else mupd F s v
def addP (P : ByteArray → Bool) (s : ByteArray) : ByteArray → Bool := fun t => decide (t = s) || P t
theorem onceF_pres {α : Type} {F : ByteArray → Option α} {P : ByteArray → Bool} (h : ∀ s, (F s).isSome = P s) (s : ByteArray) (v : α) : ∀ t, (onceF F s v t).isSome = addP P s t := by
 intro t
 unfold onceF addP
 cases hs : (F s).isSome with
 | true =>
   rw [if_pos rfl, h]
   by_cases e : t = s
   · subst e; rw [← h, hs]; simp
   · simp [e]
 | false =>
   rw [if_neg Bool.false_ne_true]
   unfold mupd
   by_cases e : t = s
   · simp [e]
   · simp [e, h]
def OncePost {α : Type} (enc : α → Value) (b : Nat) (F : ByteArray → Option α) (s : ByteArray) (v : α) (w : World) (e : Ending) (w' : World) : Prop :=
 e = .returned (.bool (!(F s).isSome)) ∧ StrMap w' b (menc enc (onceF F s v)) ∧ Turned (fun k => k = b) w w'
theorem onceI_calls (b : Nat) (F : ByteArray → Option Int) (s : ByteArray) (v : Int) (w : World) (h : StrMap w b (menc encI F)) :
   Calls Tryz.prog 29 #[.map (some b), .string s, .int .i64 v] w (OncePost encI b F s v w) := by
 have hz : ∀ W, (zeroValue 3).run Tryz.prog W = .ok (.int .i64 0) W := fun W => by kernel_rfl
 have hu := Tryz.underlying58
 have hk := Tryz.underlying9
 cases hs : (F s).isSome with
 | true =>
   have hq : (menc encI F s).isSome = true := by rw [menc_isSome]; exact hs
   have Q := Aside0.mk (show onceF F s v = F by unfold onceF; rw [if_pos hs])
   have HS := Aside0.mk hs
   clear hs
   have H := Aside0.mk h
   clear h
   have hgd : ∃ c : Int, (menc encI F s).getD (.int .i64 0) = .int .i64 c := by unfold menc; cases F s with | none => exact ⟨0, rfl⟩ | some x => exact ⟨x, rfl⟩
   obtain ⟨c, hgd⟩ := hgd
   have HG := Aside0.mk hgd; have HQ := Aside0.mk hq
   clear hgd hq
   go_enter Tryz.func29, Tryz.ntmps29
   go_wp2_with (at_lookup; refine look_str_ok rfl _ _ 58 rfl 9 3 hu hk _ (hz _) b _ rfl H.out s rfl (.int .i64 c) true HG.out HQ.out ?_)
   go_ret
   exact ⟨by rw [HS.out]; rfl, by rw [Q.out]; exact H.out, Turned.refl _ _⟩
 | false =>
   have hn : F s = none := by cases hF : F s with | none => rfl | some x => rw [hF] at hs; exact absurd hs (by simp)
   have hq : (menc encI F s).isSome = false := by rw [menc_isSome]; exact hs
   have Q := Aside0.mk (show onceF F s v = mupd F s v by unfold onceF; rw [hs, if_neg Bool.false_ne_true])
   have HS := Aside0.mk hs
   clear hs
   have H := Aside0.mk h
   clear h
   have HG := Aside0.mk (show (menc encI F s).getD (.int .i64 0) = .int .i64 0 by unfold menc; rw [hn]; rfl); have HQ := Aside0.mk hq
   clear hq hn
   go_enter Tryz.func29, Tryz.ntmps29
   go_wp2_with (first | (at_lookup; refine look_str_ok rfl _ _ 58 rfl 9 3 hu hk _ (hz _) b _ rfl H.out s rfl (.int .i64 0) false HG.out HQ.out ?_) | (at_mapUpdate; refine store_str rfl _ _ _ 58 rfl 9 3 hu hk b _ rfl H.out s rfl (.int .i64 v) rfl ?_; intro w2 hm hg; have HM := Aside0.mk hm; have HGR := Aside0.mk hg; clear hm hg))
   go_ret
   exact ⟨by rw [HS.out]; rfl, by rw [Q.out, ← menc_mupd]; exact HM.out, Turned.of_grown HGR.out (fun k hk => by cases hk; rfl)⟩
theorem onceP_calls (b : Nat) (F : ByteArray → Option (Int × Int)) (s : ByteArray) (v : Int × Int) (w : World) (h : StrMap w b (menc encP F)) :
   Calls Tryz.prog 30 #[.map (some b), .string s, .agg #[.int .i64 v.1, .int .i64 v.2]] w (OncePost encP b F s v w) := by
 have hz : ∀ W, (zeroValue 75).run Tryz.prog W = .ok (.agg #[.int .i64 0, .int .i64 0]) W := fun W => by kernel_rfl
 have hu := Tryz.underlying57
 have hk := Tryz.underlying9
 have hu2 := Tryz.underlying75
 have hgd : ∃ c : Int × Int, (menc encP F s).getD (.agg #[.int .i64 0, .int .i64 0]) = .agg #[.int .i64 c.1, .int .i64 c.2] := by unfold menc; cases F s with | none => exact ⟨(0, 0), rfl⟩ | some x => exact ⟨x, rfl⟩
 obtain ⟨c, hgd⟩ := hgd
 have HG := Aside0.mk hgd
 clear hgd
 have HT := Aside0.mk (Turned.refl (fun k => k = b) w)
 have hlt := h.lt
 cases hs : (F s).isSome with
 | true =>
   have HQ := Aside0.mk (show (menc encP F s).isSome = true by rw [menc_isSome]; exact hs)
   have Q := Aside0.mk (show onceF F s v = F by unfold onceF; rw [if_pos hs])
   have HS := Aside0.mk hs
   clear hs
   have H := Aside0.mk h
   clear h
   go_enter Tryz.func30, Tryz.ntmps30
   go_wp2_with (first | (at_lookup; refine look_str_ok rfl _ _ 57 rfl 9 75 hu hk _ (hz _) b _ rfl (H.out.below (below_alloc (Below.refl _ _) _)) s rfl _ true HG.out HQ.out ?_) | ((with_reducible refine gate_store (t := 75) (p := 7) rfl ?_); refine store_whole rfl rfl 75 _ _ rfl (w.heap.size + 1) _ 75 rfl (blk_new2 _ _ _) _ rfl rfl rfl (by simp [Value.oneCell']) ?_; intro w2 hb2 hg2; have HGR := Aside0.mk hg2; clear hb2 hg2))
   go_ret
   have ht : Turned (fun k => k = b) w w2 := by
     have h1 : Turned (fun k => k = b) w ((w.alloc (.cells #[.int .i64 v.1, .int .i64 v.2] 75)).alloc (.cells #[.int .i64 0, .int .i64 0] 75)) := Turned.of_below ((below_alloc (below_alloc (Below.refl _ _) _) _))
     exact ⟨HGR.out.os.trans h1.os, HGR.out.tape.trans h1.tape, HGR.out.output.trans h1.output, Nat.le_trans h1.size HGR.out.size, fun k hk hs => (HGR.out.block k (by simp; omega) (by intro e; injection e with e; omega)).trans (h1.block k hk hs)⟩
   have hm : StrMap w2 b (menc encP F) := (H.out.below ((below_alloc (below_alloc (Below.refl _ _) _) _))).grown HGR.out (by intro e; injection e with e; omega)
   exact ⟨by rw [HS.out]; rfl, by rw [Q.out]; exact hm, ht⟩
 | false =>
   have HQ := Aside0.mk (show (menc encP F s).isSome = false by rw [menc_isSome]; exact hs)
   have Q := Aside0.mk (show onceF F s v = mupd F s v by unfold onceF; rw [hs, if_neg Bool.false_ne_true])
   have HS := Aside0.mk hs
   clear hs
   have H := Aside0.mk h
   clear h
   go_enter Tryz.func30, Tryz.ntmps30
   go_wp2_with (first | (at_lookup; refine look_str_ok rfl _ _ 57 rfl 9 75 hu hk _ (hz _) b _ rfl (H.out.below (below_alloc (Below.refl _ _) _)) s rfl _ false HG.out HQ.out ?_) | ((with_reducible refine gate_store (t := 75) (p := 7) rfl ?_); refine store_whole rfl rfl 75 _ _ rfl (w.heap.size + 1) _ 75 rfl (blk_new2 _ _ _) _ rfl rfl rfl (by simp [Value.oneCell']) ?_; intro w2 hb2 hg2; have HGR := Aside0.mk hg2; have HX := Aside0.mk ((HGR.out.block w.heap.size (by simp; omega) (by intro e; injection e with e; omega)).trans (blk_alloc (blk_new w (.cells #[.int .i64 v.1, .int .i64 v.2] 75)) _)); have x0 := (blk_cell HX.out 0).trans rfl; have x1 := (blk_cell HX.out 1).trans rfl; have HM := Aside0.mk ((H.out.below ((below_alloc (below_alloc (Below.refl _ _) _) _))).grown HGR.out (by intro e; injection e with e; omega) : StrMap w2 b (menc encP F)); clear hb2 hg2) | (at_mapUpdate; refine store_str rfl _ _ _ 57 rfl 9 75 hu hk b _ rfl HM.out s rfl (.agg #[.int .i64 v.1, .int .i64 v.2]) rfl ?_; intro w3 hm hg; have HN := Aside0.mk hm; have HGS := Aside0.mk hg; clear hm hg))
   go_ret
   have ht : Turned (fun k => k = b) w w2 := by
     have h1 : Turned (fun k => k = b) w ((w.alloc (.cells #[.int .i64 v.1, .int .i64 v.2] 75)).alloc (.cells #[.int .i64 0, .int .i64 0] 75)) := Turned.of_below ((below_alloc (below_alloc (Below.refl _ _) _) _))
     exact ⟨HGR.out.os.trans h1.os, HGR.out.tape.trans h1.tape, HGR.out.output.trans h1.output, Nat.le_trans h1.size HGR.out.size, fun k hk hs => (HGR.out.block k (by simp; omega) (by intro e; injection e with e; omega)).trans (h1.block k hk hs)⟩
   exact ⟨by rw [HS.out]; rfl, by rw [Q.out, ← menc_mupd]; exact HN.out, ht.trans (Turned.of_grown HGS.out (fun k hk => by cases hk; rfl))⟩
structure Bk where
 wd : Nat
 cons : Nat
 enums : Nat
 nodes : Nat
 states : Nat
structure Mp where
 cons : ByteArray → Bool
 enums : ByteArray → Bool
 states : ByteArray → Bool
 nodes : ByteArray → Option Int
structure WAt (base : Nat) (w : World) (B : Bk) (pe pn : Value) (m : Mp) : Prop where
 wd : w.heap[B.wd]? = some (.cells #[pe, pn, .map (some B.cons), .map (some B.enums), .map (some B.nodes), .map (some B.states)] 60 (0, 0))
 cons : Pres encP w B.cons m.cons
 enums : Pres encI w B.enums m.enums
 nodes : StrMap w B.nodes (menc encI m.nodes)
 states : Pres encI w B.states m.states
 apart : B.cons ≠ B.enums ∧ B.cons ≠ B.nodes ∧ B.cons ≠ B.states ∧ B.enums ≠ B.nodes ∧ B.enums ≠ B.states ∧ B.nodes ≠ B.states
 low : base ≤ B.wd ∧ base ≤ B.cons ∧ base ≤ B.enums ∧ base ≤ B.nodes ∧ base ≤ B.states
theorem StrMap.ne {w : World} {b g : Nat} {f : ByteArray → Option Value} {cs : Array Value} {t : TypeId} (h : StrMap w b f) (hg : w.heap[g]? = some (.cells cs t (0, 0))) : b ≠ g := by
 rintro rfl
 obtain ⟨es, clock, hb, _⟩ := h
 rw [hg] at hb; cases hb
theorem Pres.ne {α : Type} {enc : α → Value} {w : World} {b g : Nat} {P : ByteArray → Bool} {cs : Array Value} {t : TypeId} (h : Pres enc w b P) (hg : w.heap[g]? = some (.cells cs t (0, 0))) : b ≠ g := by obtain ⟨F, h, _⟩ := h; exact h.ne hg
section
variable {base : Nat} {w w1 : World} {B : Bk} {pe pn : Value} {m : Mp}
theorem WAt.turned (h : WAt base w B pe pn m) {S : Nat → Prop} (ht : Turned S w w1) (h1 : ¬ S B.wd) (h2 : ¬ S B.cons) (h3 : ¬ S B.enums) (h4 : ¬ S B.nodes) (h5 : ¬ S B.states) : WAt base w1 B pe pn m :=
 ⟨ht.blk h.wd h1, h.cons.turned ht h2, h.enums.turned ht h3, h.nodes.turned ht h4, h.states.turned ht h5, h.apart, h.low⟩
theorem WAt.below (h : WAt base w B pe pn m) (hb : Below w.heap.size w w1) : WAt base w1 B pe pn m := h.turned (Turned.of_below (S := fun _ => False) hb) (fun e => e) (fun e => e) (fun e => e) (fun e => e) (fun e => e)
theorem WAt.as (h : WAt base w B pe pn m) {o' : Obj} (hg : (w.alloc o').grownBy w1 (some w.heap.size)) : WAt base w1 B pe pn m :=
 h.turned (turned_as (Turned.refl (fun _ => False) w) hg) (fun e => e) (fun e => e) (fun e => e) (fun e => e) (fun e => e)
theorem WAt.cons' (h : WAt base w B pe pn m) {P : ByteArray → Bool} (ht : Turned (fun k => k = B.cons) w w1) (hp : Pres encP w1 B.cons P) : WAt base w1 B pe pn { m with cons := P } :=
 ⟨ht.blk h.wd (fun e => h.cons.ne h.wd e.symm), hp, h.enums.turned ht (fun e => h.apart.1 e.symm), h.nodes.turned ht (fun e => h.apart.2.1 e.symm), h.states.turned ht (fun e => h.apart.2.2.1 e.symm), h.apart, h.low⟩
theorem WAt.enums' (h : WAt base w B pe pn m) {P : ByteArray → Bool} (ht : Turned (fun k => k = B.enums) w w1) (hp : Pres encI w1 B.enums P) : WAt base w1 B pe pn { m with enums := P } :=
 ⟨ht.blk h.wd (fun e => h.enums.ne h.wd e.symm), h.cons.turned ht h.apart.1, hp, h.nodes.turned ht (fun e => h.apart.2.2.2.1 e.symm), h.states.turned ht (fun e => h.apart.2.2.2.2.1 e.symm), h.apart, h.low⟩
theorem WAt.states' (h : WAt base w B pe pn m) {P : ByteArray → Bool} (ht : Turned (fun k => k = B.states) w w1) (hp : Pres encI w1 B.states P) : WAt base w1 B pe pn { m with states := P } :=
 ⟨ht.blk h.wd (fun e => h.states.ne h.wd e.symm), h.cons.turned ht h.apart.2.2.1, h.enums.turned ht h.apart.2.2.2.2.1, h.nodes.turned ht h.apart.2.2.2.2.2, hp, h.apart, h.low⟩
theorem WAt.nodes' (h : WAt base w B pe pn m) {P : ByteArray → Option Int} (ht : Turned (fun k => k = B.nodes) w w1) (hp : StrMap w1 B.nodes (menc encI P)) : WAt base w1 B pe pn { m with nodes := P } :=
 ⟨ht.blk h.wd (fun e => h.nodes.ne h.wd e.symm), h.cons.turned ht h.apart.2.1, h.enums.turned ht h.apart.2.2.2.1, hp, h.states.turned ht (fun e => h.apart.2.2.2.2.2 e.symm), h.apart, h.low⟩
end
def falseS : ByteArray := ⟨#[70, 97, 108, 115, 101]⟩
def trueS : ByteArray := ⟨#[84, 114, 117, 101]⟩
def F0 : ByteArray → Option (Int × Int) := mupd (mupd (fun _ => none) falseS (-1, 0)) trueS (-1, 1)
def m0 : Mp := ⟨fun s => (F0 s).isSome, fun _ => false, fun _ => false, fun _ => none⟩
section
variable {P : Program} {ops : Array Oper} {rest : List Oper} {o : Oper} {a : Act} {Q : Exit → Act → World → Prop} {w : World}
theorem store_one (hgd : o.guard = none) (hN : o.dst = none) (t : TypeId) (p v : Operand) (ho : o.op = .store t p v) (g : Nat) (cur : Value) (e : TypeId) (hp : a.eval p = .pointer (some ⟨g, 0, none⟩))
   (hh : w.heap[g]? = some (.cells #[cur] e (0, 0))) (u : Value) (hv : a.eval v = u) (hu : u.cells = #[u]) (hs : (P.info? t).map (·.size) = some 1) (h1 : u.oneCell' = true)
   (h : ∀ w', w'.heap[g]? = some (.cells #[u] e (0, 0)) → w.grownBy w' (some g) → wpList P ops Q rest a w') : wpList P ops Q (o :: rest) a w := by
 have hst := run_storeCells_at P g 0 e [u] 0 #[cur] w hh (by simp) (by simpa using h1)
 have hrow : ((#[cur] : Array Value).toList.take (0 + 0) ++ [u] ++ (#[cur] : Array Value).toList.drop (0 + 0 + [u].length)).toArray = #[u] := rfl
 rw [hrow] at hst
 obtain ⟨i, hi, hsz⟩ := Option.map_eq_some_iff.1 hs
 have hrun : (Instr.storeAt t (.pointer (some ⟨g, 0, none⟩)) u).run P w = .ok () (w.setRow g #[u]) := by
   simp [Instr.storeAt, Instr.sureAddr, storeVar, sizeOf, typeInfo, hi, hsz, hu, hst]
 have hg : w.grownBy (w.setRow g #[u]) (some g) := ⟨rfl, rfl, rfl, by simp [World.setRow], fun k hk hne => setRow_other w g k #[u] (fun e => hne (by rw [e]))⟩
 have hb := setRow_heap w g #[cur] #[u] e (0, 0) hh
 generalize w.setRow g #[u] = w1 at hrun hg hb
 refine wpList_plain hgd fun K hK => ?_
 unfold Oper.wp
 simp only [execOp, ho, hp, hv]
 have hK' := hK a w1 (h w1 hb hg)
 have hN' : a.put o.dst undef = a := by rw [hN]; rfl
 simp only [Sem.run_bind, hrun, Result.andThen, Sem.run_pure]
 show K (a.put o.dst undef) w1
 rw [hN']; exact hK'
theorem insert_str (hg : o.guard = none) (m x v : Operand) (t : TypeId) (hop : o.op = Op.insert t m x v) (k e : TypeId) (ht : P.underlying t = some (.map k e)) (hk : P.underlying k = some .string)
   (b : Nat) (f : ByteArray → Option Value) (hm : a.eval m = .map (some b)) (h : StrMap w b f) (s : ByteArray) (hx : a.eval x = .string s) (u : Value) (hv : a.eval v = u)
   (hK : ∀ w', StrMap w' b (mupd f s u) → w.grownBy w' (some b) → wpList P ops Q rest (a.put o.dst undef) w') : wpList P ops Q (o :: rest) a w := by
 refine wpList_plain hg fun K' hK' => ?_
 obtain ⟨w', hrun, r1, r2⟩ := h.store ht hk s u
 unfold Oper.wp
 simp [execOp, hop, hm, hx, hv, hrun, Result.andThen]
 exact hK' _ _ (hK w' r1 r2)
end
def BeginPost (pe pn : Value) (w : World) (e : Ending) (w' : World) : Prop :=
 ∃ B : Bk, e = .returned (.pointer (some ⟨B.wd, 0, none⟩)) ∧ WAt w.heap.size w' B pe pn m0 ∧ StrMap w' B.cons (menc encP F0) ∧ Below w.heap.size w w'
set_option maxHeartbeats 2000000 in
theorem begin_calls (Ae An : Option Addr) (ne ce nn cn : Nat) (w : World) :
   Calls Tryz.prog 13 #[.agg #[.slice Ae ne ce, .slice An nn cn]] w (BeginPost (.slice Ae ne ce) (.slice An nn cn) w) := by
 have hu := Tryz.underlying25
 have hu2 := Tryz.underlying60
 have hm1 := Tryz.underlying57
 have hk := Tryz.underlying9
 have HB := Aside0.mk (Below.refl w.heap.size w)
 go_enter Tryz.func13, Tryz.ntmps13
 go_wp2_with (first
   | ((with_reducible refine gate_dst (N := 1) rfl ?_); refine box_event ?hg (N := 1) ?hd (cs := #[.slice Ae ne ce, .slice An nn cn]) (t := 25) ?hr ?_; (case hd => rfl); (case hg => rfl); (case hr => first | (go_simp; done) | (go_simp; rfl)); intro g1 hg_ w_ hbox hb; have c0 := (blk_cell hbox 0).trans rfl; have c1 := (blk_cell hbox 1).trans rfl; replace HB := Aside0.mk (below_step HB.out hb); clear hb hbox hg_)
   | ((with_reducible refine gate_dst (N := 4) rfl ?_); refine make_str rfl _ rfl ?_; intro bc hg_ w_ hm hb; have HC := Aside0.mk hm; have LC := Aside0.mk (show w.heap.size ≤ bc by rw [hg_]; exact HB.out.size); replace HB := Aside0.mk (below_step HB.out hb); clear hm hb hg_)
   | ((with_reducible refine gate_dst (N := 8) rfl ?_); refine make_str rfl _ rfl ?_; intro be hg_ w_ hm hb; have HE := Aside0.mk hm; have LE := Aside0.mk (show w.heap.size ≤ be by rw [hg_]; exact HB.out.size); have NCE := Aside0.mk (show bc ≠ be by have := HC.out.lt; rw [hg_]; omega); replace HC := Aside0.mk (HC.out.below hb); replace HB := Aside0.mk (below_step HB.out hb); clear hm hb hg_)
   | ((with_reducible refine gate_dst (N := 9) rfl ?_); refine make_str rfl _ rfl ?_; intro bn hg_ w_ hm hb; have HN := Aside0.mk hm; have LN := Aside0.mk (show w.heap.size ≤ bn by rw [hg_]; exact HB.out.size); have NCN := Aside0.mk (show bc ≠ bn ∧ be ≠ bn by have := HC.out.lt; have := HE.out.lt; rw [hg_]; omega); replace HC := Aside0.mk (HC.out.below hb); replace HE := Aside0.mk (HE.out.below hb); replace HB := Aside0.mk (below_step HB.out hb); clear hm hb hg_)
   | ((with_reducible refine gate_dst (N := 10) rfl ?_); refine make_str rfl _ rfl ?_; intro bs hg_ w_ hm hb; have HS := Aside0.mk hm; have LS := Aside0.mk (show w.heap.size ≤ bs by rw [hg_]; exact HB.out.size); have NCS := Aside0.mk (show bc ≠ bs ∧ be ≠ bs ∧ bn ≠ bs by have := HC.out.lt; have := HE.out.lt; have := HN.out.lt; rw [hg_]; omega); replace HC := Aside0.mk (HC.out.below hb); replace HE := Aside0.mk (HE.out.below hb); replace HN := Aside0.mk (HN.out.below hb); replace HB := Aside0.mk (below_step HB.out hb); clear hm hb hg_)
   | ((with_reducible refine gate_dst (N := 12) rfl ?_); refine box_event ?hg (N := 12) ?hd (cs := #[.slice Ae ne ce, .slice An nn cn, .map (some bc), .map (some be), .map (some bn), .map (some bs)]) (t := 60) ?hr ?_; (case hd => rfl); (case hg => rfl); (case hr => first | (go_simp; done) | (go_simp; rfl)); intro gw hg_ w_ hbox hb; have HW := Aside0.mk hbox; have LW := Aside0.mk (show w.heap.size ≤ gw by rw [hg_]; exact HB.out.size); replace HC := Aside0.mk (HC.out.below hb); replace HE := Aside0.mk (HE.out.below hb); replace HN := Aside0.mk (HN.out.below hb); replace HS := Aside0.mk (HS.out.below hb); replace HB := Aside0.mk (below_step HB.out hb); clear hb hbox hg_)
   | (refine insert_str rfl _ _ _ 57 rfl 9 75 hm1 hk bc _ rfl HC.out _ rfl _ rfl ?_; intro w_ hm hg; replace HC := Aside0.mk hm; replace HB := Aside0.mk (HB.out.grown hg HB.out.size (fun k hk => by cases hk; exact LC.out)); clear hm hg))
 go_ret
 have hF := HC.out
 have e : mupd (mupd (fun _ => none) falseS (encP (-1, 0))) trueS (encP (-1, 1)) = menc encP F0 := by unfold F0; rw [← menc_mupd, ← menc_mupd, menc_none]
 replace hF := (congrArg (fun f => StrMap w_ bc f) e).mp hF
 exact ⟨⟨gw, bc, be, bn, bs⟩, rfl, ⟨HW.out, ⟨F0, hF, fun _ => rfl⟩, ⟨fun _ => none, HE.out, fun _ => rfl⟩, HN.out, ⟨fun _ => none, HS.out, fun _ => rfl⟩, ⟨NCE.out, NCN.out.1, NCS.out.1, NCN.out.2, NCS.out.2.1, NCS.out.2.2⟩, ⟨LW.out, LC.out, LE.out, LN.out, LS.out⟩⟩, hF, HB.out⟩
theorem inB_iff (l : List ByteArray) (s : ByteArray) : inB l s = true ↔ s ∈ l := by
 unfold inB
 rw [List.any_eq_true]
 constructor
 · rintro ⟨x, hx, e⟩; rw [← of_decide_eq_true e]; exact hx
 · intro h; exact ⟨s, h, by simp⟩
theorem inB_false (l : List ByteArray) (s : ByteArray) : inB l s = false ↔ ¬ s ∈ l := by rw [← inB_iff]; cases inB l s <;> simp
def unlikeB (l : List ByteArray) : Bool := decide l.Nodup
theorem nodup_take (l : List ByteArray) (z : ByteArray) : l.Nodup ↔ ∀ i, i < l.length → ¬ l.getD i z ∈ l.take i := by
 unfold List.Nodup
 rw [List.pairwise_iff_getElem]
 constructor
 · intro h i hi hm
   rw [List.getD_eq_getElem?_getD, List.getElem?_eq_getElem hi] at hm
   obtain ⟨j, hj, e⟩ := List.mem_iff_getElem.1 hm
   rw [List.getElem_take] at e
   have hji : j < i := by simp at hj; omega
   exact h j i (by omega) hi hji e
 · intro h i j hi hj hij e
   refine h j hj ?_
   rw [List.getD_eq_getElem?_getD, List.getElem?_eq_getElem hj]
   simp only [Option.getD_some]
   rw [← e]
   exact List.mem_iff_getElem.2 ⟨i, by simp; omega, by rw [List.getElem_take]⟩
theorem unlike1_eg : ∀ args w, (callFunc 74 args).run Tryz.prog w = .ok (.enter 74 args) w := enters_of Tryz.func74 (by kernel_rfl) rfl
def Un1Post (b : Nat) (F : ByteArray → Option Int) (s : ByteArray) (w : World) (e : Ending) (w' : World) : Prop :=
 e = .returned (.bool (F s).isSome) ∧ StrMap w' b (menc encI (onceF F s 1)) ∧ Turned (fun k => k = b) w w'
theorem unlike1_calls (b gb : Nat) (F : ByteArray → Option Int) (s : ByteArray) (w : World) (hg : w.heap[gb]? = some (.cells #[.map (some b)] 58 (0, 0))) (h : StrMap w b (menc encI F)) :
   Calls Tryz.prog 74 #[.string s, .pointer (some ⟨gb, 0, none⟩)] w (Un1Post b F s w) := by
 have hcall := onceI_calls b F s 1 w h
 have c0 := (blk_cell hg 0).trans rfl
 have HS := Aside0.mk (show (!(!(F s).isSome)) = (F s).isSome by cases (F s).isSome <;> rfl)
 clear h hg
 go_enter Tryz.func74, Tryz.ntmps74
 go_wp2_with fail
 refine hcall.mono ?_
 rintro e w1 ⟨rfl, hm, ht⟩
 have HM := Aside0.mk hm; have HT := Aside0.mk ht
 clear hm ht
 generalize hq : (F s).isSome = q at HS ⊢
 have HQ := Aside0.mk hq
 clear hq
 cases q with
 | true =>
   go_wp2_with fail
   go_ret
   exact ⟨by rw [HQ.out]; rfl, HM.out, HT.out⟩
 | false =>
   go_wp2_with fail
   go_ret
   exact ⟨by rw [HQ.out]; rfl, HM.out, HT.out⟩
def UnInv (w : World) (b gb : Nat) (l : List ByteArray) (i : Nat) (W : World) : Prop :=
 Below w.heap.size w W ∧ W.heap[gb]? = some (.cells #[.map (some b)] 58 (0, 0)) ∧ ∃ F, StrMap W b (menc encI F) ∧ ∀ s, (F s).isSome = inB (l.take i) s
theorem unlike_any (w W : World) (b gb : Nat) (A : Option Addr) (c : Nat) (l : List ByteArray) (hC : Kd.string.C w A l.length l) (hb : w.heap.size ≤ b) (h0 : UnInv w b gb l 0 W) :
   Calls Tryz.prog 67 #[.slice A l.length c, .func (.func 74) #[] #[.pointer (some ⟨gb, 0, none⟩)]] W fun e w' => e = .returned (.bool (!unlikeB l)) ∧ Below w.heap.size w w' := by
 refine (ct_string _ _ unlike1_eg w W A c l hC (fun i => inB (l.take i) (l.getD i (⟨#[]⟩ : ByteArray))) (UnInv w b gb l) (fun _ W' => Below w.heap.size w W') (fun i W' h => h.1) ?_ h0).mono ?_
 · intro i W' hi ⟨hI, hg, F, hm, hF⟩
   refine (unlike1_calls b gb F _ W' hg hm).mono ?_
   rintro e w' ⟨rfl, hm', ht⟩
   have hbw : Below w.heap.size w w' := ht.below hI hI.size (fun k hk => by rw [hk]; exact hb)
   refine ⟨by rw [hF], fun _ => hbw, fun hn => ⟨hbw, ht.blk hg (fun e => (hm.ne hg) e.symm), _, hm', fun s => ?_⟩⟩
   rw [onceF_pres hF _ 1 s]
   have e1 : l.take (i + 1) = l.take i ++ [l.getD i (⟨#[]⟩ : ByteArray)] := by rw [List.take_succ_eq_append_getElem hi, List.getD_eq_getElem?_getD, List.getElem?_eq_getElem hi]; rfl
   unfold addP
   rw [Bool.eq_iff_iff]
   simp only [Bool.or_eq_true, decide_eq_true_eq, inB_iff]
   rw [e1, List.mem_append, List.mem_singleton]
   exact Or.comm
 · intro e w' h
   rcases h with ⟨rfl, h1, h2⟩ | ⟨i, hi, rfl, _, h1, h2⟩
   · have : unlikeB l = true := decide_eq_true ((nodup_take l (⟨#[]⟩ : ByteArray)).2 (fun i hi => (inB_false _ _).1 (h1 i hi)))
     rw [this]; exact ⟨rfl, h2.1⟩
   · have : unlikeB l = false := decide_eq_false (fun h => (nodup_take l (⟨#[]⟩ : ByteArray)).1 h i hi ((inB_iff _ _).1 h1))
     rw [this]; exact ⟨rfl, h2⟩
theorem unlike_calls (A : Option Addr) (c : Nat) (l : List ByteArray) (w : World) (hC : Kd.string.C w A l.length l) :
   Calls Tryz.prog 51 #[.slice A l.length c] w fun e w' => e = .returned (.bool (unlikeB l)) ∧ Below w.heap.size w w' := by
 have hcall := fun (W : World) (b gb : Nat) (hb : w.heap.size ≤ b) (h0 : UnInv w b gb l 0 W) => unlike_any w W b gb A c l hC hb h0
 clear hC
 generalize unlikeB l = q at hcall ⊢
 go_enter Tryz.func51, Tryz.ntmps51
 go_wp2_with (first
   | ((with_reducible refine gate_dst (N := 4) rfl ?_); refine make_str rfl _ rfl ?_; intro b hg_ w_ hm hb; have HM := Aside0.mk hm; have LB := Aside0.mk (show w.heap.size ≤ b by rw [hg_]; exact Nat.le_refl _); have HB := Aside0.mk hb; clear hm hb hg_)
   | ((with_reducible refine gate_store (t := 58) (p := 3) rfl ?_); refine store_one rfl rfl 58 _ _ rfl w_.heap.size _ 58 rfl (blk_new _ _) (.map (some b)) rfl rfl rfl rfl ?_; intro w2 hb2 hg2; have HM2 := Aside0.mk (HM.out.turned (turned_as (Turned.refl (fun _ => False) w_) hg2) (fun e => e)); have HB2 := Aside0.mk (below_as HB.out hg2); have HG := Aside0.mk hb2; clear hb2 hg2))
 refine (hcall _ b _ LB.out ⟨HB2.out, HG.out, (fun _ => none), HM2.out, fun s => rfl⟩).mono ?_
 rintro e w5 ⟨rfl, hb5⟩
 cases q with
 | true =>
   go_wp2_with fail
   go_ret
   exact ⟨rfl, hb5⟩
 | false =>
   go_wp2_with fail
   go_ret
   exact ⟨rfl, hb5⟩
def addL (P : ByteArray → Bool) (l : List ByteArray) : ByteArray → Bool := fun s => inB l s || P s
def freshL (P : ByteArray → Bool) (l : List ByteArray) : Bool := unlikeB l && !l.any P
theorem addL_nil (P : ByteArray → Bool) : addL P [] = P := by funext s; simp [addL, inB]
theorem take_snoc' (l : List ByteArray) (z : ByteArray) (k : Nat) (h : k < l.length) : l.take (k + 1) = l.take k ++ [l.getD k z] := by rw [List.take_succ_eq_append_getElem h, List.getD_eq_getElem?_getD, List.getElem?_eq_getElem h]; rfl
theorem addP_addL (P : ByteArray → Bool) (l : List ByteArray) (z : ByteArray) (k : Nat) (h : k < l.length) : addP (addL P (l.take k)) (l.getD k z) = addL P (l.take (k + 1)) := by
 funext s
 rw [take_snoc' l z k h]
 unfold addP addL
 rw [Bool.eq_iff_iff]
 simp only [Bool.or_eq_true, decide_eq_true_eq, inB_iff, List.mem_append, List.mem_singleton]
 constructor
 · rintro (h | h | h)
   · exact .inl (.inr h)
   · exact .inl (.inl h)
   · exact .inr h
 · rintro ((h | h) | h)
   · exact .inr (.inl h)
   · exact .inl h
   · exact .inr (.inr h)
theorem unlikeB_snoc (l : List ByteArray) (x : ByteArray) : unlikeB (l ++ [x]) = (unlikeB l && !inB l x) := by
 unfold unlikeB
 rw [Bool.eq_iff_iff]
 simp only [Bool.and_eq_true, decide_eq_true_eq, Bool.not_eq_true', inB_false]
 rw [List.nodup_append]
 constructor
 · rintro ⟨h1, _, h3⟩; exact ⟨h1, fun hm => h3 x hm x (by simp) rfl⟩
 · rintro ⟨h1, h2⟩; exact ⟨h1, by simp, fun a ha b hb e => by rw [List.mem_singleton] at hb; subst hb; subst e; exact h2 ha⟩
theorem freshL_step (P : ByteArray → Bool) (l : List ByteArray) (z : ByteArray) (k : Nat) (h : k < l.length) : freshL P (l.take (k + 1)) = (!addL P (l.take k) (l.getD k z) && freshL P (l.take k)) := by
 rw [take_snoc' l z k h]
 unfold freshL addL
 rw [unlikeB_snoc, List.any_append]
 simp only [List.any_cons, List.any_nil, Bool.or_false]
 cases unlikeB (l.take k) <;> cases inB (l.take k) (l.getD k z) <;> cases (l.take k).any P <;> cases P (l.getD k z) <;> rfl
theorem WAt.drew {base : Nat} {w : World} {B : Bk} {pe pn : Value} {m : Mp} (h : WAt base w B pe pn m) : WAt base w.drew B pe pn m := h.turned (S := fun _ => False) ((Turned.refl _ w).drew) (fun e => e) (fun e => e) (fun e => e) (fun e => e) (fun e => e)
theorem StrMap.drew {w : World} {b : Nat} {f : ByteArray → Option Value} (h : StrMap w b f) : StrMap w.drew b f := h
def WorldSays (base : Nat) (B : Bk) (pe pn : Value) (m : Mp) (w0 : World) (b : Bool) (e : Ending) (w' : World) : Prop :=
 e = .returned (.bool b) ∧ Below w0.heap.size w0 w' ∧ WAt base w' B pe pn m
set_option maxHeartbeats 8000000 in
theorem enum_calls (es : List S38) (ns : List S35) (Ae An : Option Addr) (ce cn : Nat) (w0 w : World) (he : k38.C w0 Ae es.length es) (hw : Below w0.heap.size w0 w) (B : Bk) (m : Mp) (h : WAt w0.heap.size w B (.slice Ae es.length ce) (.slice An ns.length cn) m) (i : Nat) (hi : i < es.length) :
   Calls Tryz.prog 14 #[.pointer (some ⟨B.wd, 0, none⟩), .int .i64 (i : Int)] w (WorldSays w0.heap.size B (.slice Ae es.length ce) (.slice An ns.length cn) { m with enums := addP m.enums (es.getD i z38).f0, cons := addL m.cons (es.getD i z38).f1 } w0 (!m.enums (es.getD i z38).f0 && freshL m.cons (es.getD i z38).f1)) := by
 have HB := Aside0.mk hw
 have HW := Aside0.mk h
 have HE := Aside0.mk he
 have hiz : (i : Int) < (es.length : Int) := by omega
 have hmxe : es.length ≤ 9223372036854775807 := he.2.1
 clear hw h he
 have hu := Tryz.underlying25
 have hu2 := Tryz.underlying60
 have hu3 := Tryz.underlying38
 have hu4 := Tryz.underlying75
 obtain ⟨ead, ecs, rfl, _, eK, ecc⟩ := Kd.C_get HE.out z38 (i : Int) (by omega) (by omega)
 have eK' := eK
 obtain ⟨eA1, ec1, rfl, el1, eg1⟩ := k38_open eK'
 have ex0 := (HB.out.cell (World.block_lt_of_cell? w0 _ (ecc 0 _ rfl))).trans (ecc 0 _ rfl)
 have ex1 := (HB.out.cell (World.block_lt_of_cell? w0 _ (ecc 1 _ rfl))).trans (ecc 1 _ rfl)
 rw [show (k38).sz = 2 from rfl, Nat.add_zero, Int.toNat_natCast] at ex0
 rw [show (k38).sz = 2 from rfl, Int.toNat_natCast, add_field _ _ 1 (by omega)] at ex1
 clear ecc
 try simp only [Int.toNat_natCast] at ex0 ex1 eK el1 eg1
 generalize Yt0 : es.getD i z38 = t at ⊢ ex0 ex1 eK el1 eg1
 have Yt := Aside0.mk Yt0; clear Yt0
 have eL1 := Aside0.mk el1; have eG1 := Aside0.mk eg1; clear el1 eg1
 have cw0 := (blk_cell HW.out.wd 0).trans rfl
 have cw1 := (blk_cell HW.out.wd 1).trans rfl
 have cw2 := (blk_cell HW.out.wd 2).trans rfl
 have cw3 := (blk_cell HW.out.wd 3).trans rfl
 have cw4 := (blk_cell HW.out.wd 4).trans rfl
 have cw5 := (blk_cell HW.out.wd 5).trans rfl
 go_enter Tryz.func14, Tryz.ntmps14
 go_wp2_with ((with_reducible refine gate_store (t := 38) (p := 5) rfl ?_); refine store_whole rfl rfl 38 _ _ rfl w.heap.size _ 38 rfl (blk_new _ _) _ rfl rfl rfl (by simp [Value.oneCell']) ?_; intro w2 hb2 hg2; have hg3_ := hg2; replace HB := Aside0.mk (below_as HB.out hg2); obtain ⟨ge, hq_⟩ : ∃ g_, g_ = w.heap.size := ⟨_, rfl⟩; rw [← hq_] at hb2; rw [← hq_]; have BE := Aside0.mk hb2; have HW2 := Aside0.mk (HW.out.as hg3_); clear HW; have HW := HW2; clear HW2; clear hb2 hg2 hg3_ hq_)
 clear cw0 cw1 cw2 cw3 cw4 cw5
 have cw0 := (blk_cell HW.out.wd 0).trans rfl
 have cw1 := (blk_cell HW.out.wd 1).trans rfl
 have cw2 := (blk_cell HW.out.wd 2).trans rfl
 have cw3 := (blk_cell HW.out.wd 3).trans rfl
 have cw4 := (blk_cell HW.out.wd 4).trans rfl
 have cw5 := (blk_cell HW.out.wd 5).trans rfl
 have ce_0 := (blk_cell BE.out 0).trans rfl
 have ce_1 := (blk_cell BE.out 1).trans rfl
 go_still_tail 7, (by kernel_rfl)
 change wpList _ _ _ _ _ (World.drew w2)
 have HB_ := Aside0.mk (below_drew1 HB.out); clear HB
 have HW_ := Aside0.mk (WAt.drew HW.out); clear HW
 have BE_ := Aside0.mk (blk_drew BE.out); clear BE
 generalize World.drew w2 = w3 at HB_ HW_ BE_ ⊢
 have HB := HB_; clear HB_
 have HW := HW_; clear HW_
 have BE := BE_; clear BE_
 clear cw0 cw1 cw2 cw3 cw4 cw5
 clear ce_0 ce_1
 obtain ⟨Fe, hFe, hFp⟩ := HW.out.enums
 have hone := onceI_calls B.enums Fe t.f0 (i : Int) w3 hFe
 have HFP := Aside0.mk (onceF_pres hFp t.f0 (i : Int))
 have h0 := hFp t.f0
 clear hFe hFp
 go_wp2_with fail
 refine hone.mono ?_
 rintro e w4 ⟨rfl, hm, ht⟩
 rw [h0]
 clear h0 hone
 have hlow := HW.out.low.2.2.1
 replace HB := Aside0.mk (ht.below HB.out HB.out.size (fun k hk => by rw [hk]; exact hlow))
 replace BE := Aside0.mk (ht.blk BE.out (fun e => (HW.out.enums.ne BE.out) e.symm))
 have HW2 := Aside0.mk (HW.out.enums' ht ⟨_, hm, HFP.out⟩)
 clear HW hm ht HFP hlow
 have HW := HW2
 clear HW2
 have HQ := Aside0.mk (show (!m.enums t.f0 && freshL m.cons t.f1) = (!m.enums t.f0 && freshL m.cons t.f1) from rfl)
 generalize hq0 : (!m.enums t.f0) = q0 at HQ ⊢
 have HQ0 := Aside0.mk hq0; clear hq0 HQ
 have ce_0 := (blk_cell BE.out 0).trans rfl
 have ce_1 := (blk_cell BE.out 1).trans rfl
 go_wp2_with fail
 clear ce_0 ce_1
 go_loopg [6, 28] t.f1.length (fun gg s6 s28 wr => ∃ (kk : Nat) (q : Bool), kk ≤ t.f1.length ∧ t.f1.length - kk ≤ gg ∧ s28 = .int .i64 kk ∧ s6 = .bool q ∧ Aside0 (q = (q0 && freshL m.cons (t.f1.take kk))) ∧ Aside0 (Below w0.heap.size w0 wr) ∧ Aside0 (WAt w0.heap.size wr B (.slice (some ead) es.length ce) (.slice An ns.length cn) { m with enums := addP m.enums t.f0, cons := addL m.cons (t.f1.take kk) }))
 case atStart => exact ⟨0, q0, Nat.zero_le _, by omega, rfl, rfl, ⟨by simp [freshL, unlikeB]⟩, HB, ⟨by rw [List.take_zero, addL_nil]; exact HW.out⟩⟩
 case round =>
   clear HB HW BE
   obtain ⟨kk, q, hkk, hg, rfl, rfl, Q, HB, HW⟩ := hrel
   have hmx : t.f1.length ≤ 9223372036854775807 := (eG1.out).2.1
   by_cases hlt : kk < t.f1.length
   · have hltz : (kk : Int) < (t.f1.length : Int) := by omega
     have HFR := Aside0.mk (freshL_step m.cons t.f1 (⟨#[]⟩ : ByteArray) kk hlt)
     have HAP := Aside0.mk (addP_addL m.cons t.f1 (⟨#[]⟩ : ByteArray) kk hlt)
     obtain ⟨xad, xcs, rfl, _, xK, xcc⟩ := Kd.C_get eG1.out (⟨#[]⟩ : ByteArray) (kk : Int) (by omega) (by omega)
     obtain rfl := xK
     have xx0 := (HB.out.cell (World.block_lt_of_cell? w0 _ (xcc 0 _ rfl))).trans (xcc 0 _ rfl)
     simp only [show Kd.string.sz = 1 from rfl, Nat.mul_one, Nat.add_zero, Int.toNat_natCast] at xx0
     clear xcc
     try simp only [Int.toNat_natCast] at xx0
     generalize Yx0 : t.f1.getD kk (⟨#[]⟩ : ByteArray) = x at xx0
     have Yx := Aside0.mk Yx0; clear Yx0
     have h := HFR.out
     rw [Yx.out] at h
     have HFR2 := Aside0.mk h
     clear h
     have h := HAP.out
     rw [Yx.out] at h
     have HAP2 := Aside0.mk h
     clear h
     clear HFR HAP
     have cw0 := (blk_cell HW.out.wd 0).trans rfl
     have cw1 := (blk_cell HW.out.wd 1).trans rfl
     have cw2 := (blk_cell HW.out.wd 2).trans rfl
     have cw3 := (blk_cell HW.out.wd 3).trans rfl
     have cw4 := (blk_cell HW.out.wd 4).trans rfl
     have cw5 := (blk_cell HW.out.wd 5).trans rfl
     obtain ⟨Fc, hFc, hFp⟩ := HW.out.cons
     have hone := fun (W : World) (hx : StrMap W B.cons (menc encP Fc)) => onceP_calls B.cons Fc x ((i : Int), (kk : Int)) W hx
     have HFC := Aside0.mk hFc
     have HFP := Aside0.mk (onceF_pres hFp x ((i : Int), (kk : Int)))
     have h0 := hFp x
     clear hFc hFp
     go_wp2_with fail
     refine (hone _ HFC.out).mono ?_
     rintro e w4 ⟨rfl, hm, ht⟩
     rw [h0]
     clear h0 hone HFC
     have hlow := HW.out.low.2.1
     replace HB := Aside0.mk (ht.below HB.out HB.out.size (fun k hk => by rw [hk]; exact hlow))
     have HW2 := Aside0.mk (HW.out.cons' ht ⟨_, hm, HFP.out⟩)
     clear HW hm ht HFP hlow
     clear cw0 cw1 cw2 cw3 cw4 cw5
     have h := HW2.out
     rw [HAP2.out] at h
     have HW := Aside0.mk h
     clear h
     clear HW2 HAP2
     generalize hp0 : addL m.cons (t.f1.take kk) x = p0 at HFR2 ⊢
     clear hp0
     cases p0
     all_goals
       cases q
     all_goals
       go_wp2_with fail
       go_roundg (t.f1.length - (kk + 1))
       case measure => omega
       case rel => exact ⟨kk + 1, _, by omega, by omega, by go_num, rfl, ⟨by rw [HFR2.out]; have h := Q.out; revert h; cases q0 <;> cases freshL m.cons (t.f1.take kk) <;> simp⟩, HB, HW⟩
   · have hltz : ¬ (kk : Int) < (t.f1.length : Int) := by omega
     obtain rfl : kk = t.f1.length := by omega
     have h := Q.out
     rw [List.take_length] at h
     have Q2 := Aside0.mk h
     clear h
     have h := HW.out
     rw [List.take_length] at h
     have HW2 := Aside0.mk h
     clear h
     clear Q HW
     go_wp2_with fail
     go_ret
     exact ⟨by rw [HQ0.out, ← Q2.out]; rfl, HB.out, HW2.out⟩
end Go.Proofs.YtggfnbnochmkdaaGreat
