/- Maps keyed by strings, of the call's own: what a block says, key by key; look-ups and stores as laws of the walk. -/
import Derived.Maps.OwnOps
import Derived.Test.YticndoihkfbpoaaGreatDoorUt
namespace Go.Proofs.YticndoihkfbpoaaGreatDoor
open Go Go.RowKit Go.Lib Go.ChangeMaps Go.MapKept Go.Proofs.YticndoihkfbpoaaGreatDoorW.PrintWords
set_option maxRecDepth 100000
set_option linter.unusedSimpArgs false
set_option linter.unusedVariables false
def StrMap (w : World) (b : Nat) (f : ByteArray → Option Value) : Prop :=
 ∃ es clock, w.heap[b]? = some (.map es clock) ∧ (∀ x ∈ es.toList, IsKey .string x.key) ∧ (es.toList.map (·.key)).Nodup ∧ ∀ s v, f s = some v ↔ ∃ e ∈ es.toList, e.key = .string s ∧ e.val = v
def mupd {α : Type} (f : ByteArray → Option α) (s : ByteArray) (v : α) : ByteArray → Option α := fun t => if t = s then some v else f t
def menc {α : Type} (enc : α → Value) (f : ByteArray → Option α) : ByteArray → Option Value := fun s => (f s).map enc
theorem menc_mupd {α : Type} (enc : α → Value) (f : ByteArray → Option α) (s : ByteArray) (v : α) : mupd (menc enc f) s (enc v) = menc enc (mupd f s v) := by
 funext t
 by_cases e : t = s
 ·simp [mupd, menc, e]
 ·simp [mupd, menc, e]
theorem StrMap.made (w : World) : StrMap (w.alloc (.map #[] 0)) w.heap.size (fun _ => none) :=
 ⟨#[], 0, (MapKept.heap_alloc w _).1, by simp, by simp, by simp⟩
theorem StrMap.lt {w : World} {b : Nat} {f : ByteArray → Option Value} (h : StrMap w b f) : b < w.heap.size := by
 obtain ⟨es, clock, hb, _⟩ := h
 exact (Array.getElem?_eq_some_iff.1 hb).1
theorem StrMap.kept {w w1 : World} {b : Nat} {f : ByteArray → Option Value} (h : StrMap w b f) (hb : w1.heap[b]? = w.heap[b]?) : StrMap w1 b f := by
 obtain ⟨es, clock, h1, h2⟩ := h
 exact ⟨es, clock, hb.trans h1, h2⟩
theorem StrMap.below {w w1 : World} {b : Nat} {f : ByteArray → Option Value} (h : StrMap w b f) (hb : Below w.heap.size w w1) : StrMap w1 b f := h.kept (hb.block b h.lt)
theorem StrMap.look {P : Program} {w : World} {b : Nat} {f : ByteArray → Option Value} (h : StrMap w b f) {t k e : TypeId} (ht : P.underlying t = some (.map k e)) (hk : P.underlying k = some .string)
  {z : Value} (hz : (zeroValue e).run P w = .ok z w) (s : ByteArray) (c : Bool) :
  (Instr.lookup t (.map (some b)) (.string s) c).run P w = .ok (if c then .tuple #[(f s).getD z, .bool (f s).isSome] else (f s).getD z) w := by
 obtain ⟨es, clock, hb, hI, hN, hf⟩ := h
 have hx : IsKey .string (.string s) := trivial
 rcases findNow_spec hx es.toList 0 hI with ⟨h1, h2⟩ | ⟨j, e0, h1, h2, h3⟩
 ·have hn : f s = none := by
   cases hfs : f s with
   | none => rfl
   | some v => obtain ⟨e, he, hk', _⟩ := (hf s v).1 hfs; exact absurd hk' (h2 e he)
  simp [Instr.lookup, run_underlying ht, MapKept.run_getObj_map hb, run_checkKey hk hx, run_findKey hk h1, hz, Result.andThen, hn]
 ·have hs : f s = some e0.val := (hf s _).2 ⟨e0, List.mem_of_getElem? h2, h3, rfl⟩
  simp [Instr.lookup, run_underlying ht, MapKept.run_getObj_map hb, run_checkKey hk hx, run_findKey hk h1, Result.andThen, hs]
theorem StrMap.store {P : Program} {w : World} {b : Nat} {f : ByteArray → Option Value} (h : StrMap w b f) {t k e : TypeId} (ht : P.underlying t = some (.map k e)) (hk : P.underlying k = some .string) (s : ByteArray) (v : Value) :
  ∃ w', (Instr.mapUpdate t (.map (some b)) (.string s) v).run P w = .ok () w' ∧ StrMap w' b (mupd f s v) ∧ w.grownBy w' (some b) := by
 obtain ⟨es, clock, hb, hI, hN, hf⟩ := h
 have hx : IsKey .string (.string s) := trivial
 have hgrow : ∀ es' clock', w.grownBy (setBlock w b (.map es' clock')) (some b) := fun es' clock' => ⟨rfl, rfl, rfl, by simp [setBlock], fun i _ hi => heap_setBlock_other hb _ (fun e => hi (by rw [e]))⟩
 rcases findNow_spec hx es.toList 0 hI with ⟨h1, h2⟩ | ⟨j, e0, h1, h2, h3⟩
 ·refine ⟨setBlock w b (.map (es.push ⟨.string s, v, clock⟩) (clock + 1)), ?_, ⟨_, _, heap_setBlock_same hb _, ?_, ?_, ?_⟩, hgrow _ _⟩
  ·simp [Instr.mapUpdate, run_underlying ht, MapKept.run_getObj_map hb, run_checkKey hk hx, run_findKey hk h1, MapKept.run_setObj_map _ hb, Result.andThen, setBlock]
  ·intro x hx'
   simp only [Array.toList_push, List.mem_append, List.mem_singleton] at hx'
   rcases hx' with hx' | rfl
   ·exact hI x hx'
   ·exact hx
  ·simp only [Array.toList_push, List.map_append, List.map_cons, List.map_nil]
   refine List.nodup_append.2 ⟨hN, by simp, ?_⟩
   intro a ha b' hb' e1
   obtain ⟨x, hx1, rfl⟩ := List.mem_map.1 ha
   rw [List.mem_singleton] at hb'
   exact h2 x hx1 (e1.trans hb')
  ·intro t u
   simp only [Array.toList_push, List.mem_append, List.mem_singleton, mupd]
   by_cases e1 : t = s
   ·subst e1
    rw [if_pos rfl]
    constructor
    ·rintro ⟨⟩; exact ⟨_, .inr rfl, rfl, rfl⟩
    ·rintro ⟨x, hx1 | rfl, hk1, rfl⟩
     ·exact absurd hk1 (h2 x hx1)
     ·rfl
   ·rw [if_neg e1, hf]
    constructor
    ·rintro ⟨x, hx1, r⟩; exact ⟨x, .inl hx1, r⟩
    ·rintro ⟨x, hx1 | rfl, hk1, rfl⟩
     ·exact ⟨x, hx1, hk1, rfl⟩
     ·exact absurd (by injection hk1 with hk1; exact hk1.symm) e1
 ·have hj : es[j]? = some e0 := by simpa using h2
  have hjl : j < es.toList.length := (List.getElem?_eq_some_iff.1 h2).1
  have hkeyf : ∀ e', es[j]? = some e' → ({ e' with key := .string s, val := v } : MapEntry).key = e'.key := fun e' he' => by rw [hj] at he'; cases he'; exact h3.symm
  have hkeys := modify_keys j (fun e' => { e' with key := .string s, val := v }) hkeyf
  have hlist : (es.modify j (fun e' => { e' with key := .string s, val := v })).toList = es.toList.set j { e0 with key := .string s, val := v } := by rw [Array.toList_modify, modify_eq_set _ _ _ _ h2]
  have other : ∀ i x, es.toList[i]? = some x → x.key = .string s → i = j := by
   intro i x hi hk1
   have a1 : (es.toList.map (·.key))[i]? = some (.string s) := by rw [List.getElem?_map, hi]; simp [hk1]
   have a2 : (es.toList.map (·.key))[j]? = some (.string s) := by rw [List.getElem?_map, h2]; simp [h3]
   have hi' : i < (es.toList.map (·.key)).length := (List.getElem?_eq_some_iff.1 a1).1
   exact (List.getElem?_inj hi' hN).1 (a1.trans a2.symm)
  refine ⟨setBlock w b (.map (es.modify j (fun e' => { e' with key := .string s, val := v })) clock), ?_, ⟨_, _, heap_setBlock_same hb _, ?_, ?_, ?_⟩, hgrow _ _⟩
  ·simp [Instr.mapUpdate, run_underlying ht, MapKept.run_getObj_map hb, run_checkKey hk hx, run_findKey hk h1, hj, h3, run_keyThatStays hx, MapKept.run_setObj_map _ hb, Result.andThen, setBlock]
  ·exact isKey_modify hI j _ hkeyf
  ·rw [hkeys]; exact hN
  ·intro t u
   rw [hlist]
   simp only [mupd]
   by_cases e1 : t = s
   ·subst e1
    rw [if_pos rfl]
    constructor
    ·rintro ⟨⟩; exact ⟨{ e0 with key := .string t, val := v }, List.mem_iff_getElem.2 ⟨j, by simpa using hjl, by simp⟩, rfl, rfl⟩
    ·rintro ⟨x, hx1, hk1, rfl⟩
     obtain ⟨i, hi⟩ := List.getElem?_of_mem hx1
     rw [List.getElem?_set] at hi
     split at hi
     ·rename_i hij
      subst hij
      first | (cases hi; rfl) | (rw [if_pos hjl] at hi; cases hi; rfl)
     ·rename_i hij
      exact absurd (other i x hi hk1) (fun e => hij e.symm)
   ·rw [if_neg e1, hf]
    constructor
    ·rintro ⟨x, hx1, hk1, rfl⟩
     obtain ⟨i, hi⟩ := List.getElem?_of_mem hx1
     have hij : i ≠ j := by rintro rfl; rw [h2] at hi; cases hi; rw [h3] at hk1; injection hk1 with hk1; exact e1 hk1.symm
     exact ⟨x, List.mem_of_getElem? (i := i) (by rw [List.getElem?_set_ne (fun e => hij e.symm)]; exact hi), hk1, rfl⟩
    ·rintro ⟨x, hx1, hk1, rfl⟩
     rcases List.mem_or_eq_of_mem_set hx1 with hx1 | rfl
     ·exact ⟨x, hx1, hk1, rfl⟩
     ·exact absurd (by injection hk1 with hk1; exact hk1.symm) e1
section
variable {P : Program} {ops : Array Oper} {rest : List Oper} {o : Oper} {a : Act} {Q : Exit → Act → World → Prop} {w : World}
theorem look_str (hg : o.guard = none) (m x : Operand) (t : TypeId) (hop : o.op = Op.lookup t m x false) (k e : TypeId) (ht : P.underlying t = some (.map k e)) (hk : P.underlying k = some .string)
  (z : Value) (hz : (zeroValue e).run P w = .ok z w) (b : Nat) (f : ByteArray → Option Value) (hm : a.eval m = .map (some b)) (h : StrMap w b f) (s : ByteArray) (hx : a.eval x = .string s)
  (r : Value) (hr : (f s).getD z = r) (hK : wpList P ops Q rest (a.put o.dst r) w) : wpList P ops Q (o :: rest) a w := by
 refine wpList_plain hg fun K' hK' => ?_
 have hrun := h.look ht hk hz s false
 subst hr
 unfold Oper.wp
 simp [execOp, hop, hm, hx, hrun, Result.andThen]
 exact hK' _ _ hK
theorem make_str (hg : o.guard = none) (t : TypeId) (hop : o.op = Op.makeMap t none)
  (hK : ∀ g, g = w.heap.size → ∀ w', StrMap w' g (fun _ => none) → Below w.heap.size w w' → wpList P ops Q rest (a.put o.dst (.map (some g))) w') : wpList P ops Q (o :: rest) a w := by
 refine wpList_plain hg fun K' hK' => ?_
 unfold Oper.wp
 simp [execOp, hop, run_makeMap, Result.andThen]
 exact hK' _ _ (hK _ rfl _ (StrMap.made w) (below_alloc (Below.refl _ _) _))
theorem store_whole (hgd : o.guard = none) (hN : o.dst = none) (t : TypeId) (p v : Operand) (ho : o.op = .store t p v) (g : Nat) (cur : Array Value) (e : TypeId) (hp : a.eval p = .pointer (some ⟨g, 0, none⟩))
  (hh : w.heap[g]? = some (.cells cur e (0, 0))) (cs : Array Value) (hv : a.eval v = .agg cs) (hs : (P.info? t).map (·.size) = some cs.size) (hc : cs.size = cur.size) (h1 : ∀ q ∈ cs.toList, q.oneCell' = true)
  (h : ∀ w', w'.heap[g]? = some (.cells cs e (0, 0)) → w.grownBy w' (some g) → wpList P ops Q rest a w') : wpList P ops Q (o :: rest) a w := by
 have hst := run_storeCells_at P g 0 e cs.toList 0 cur w hh (by simp [hc]) h1
 have hrow : (cur.toList.take (0 + 0) ++ cs.toList ++ cur.toList.drop (0 + 0 + cs.toList.length)).toArray = cs := by
  rw [List.drop_of_length_le (by simp [hc]), List.append_nil]; simp
 rw [hrow] at hst
 obtain ⟨i, hi, hsz⟩ := Option.map_eq_some_iff.1 hs
 have hrun : (Instr.storeAt t (.pointer (some ⟨g, 0, none⟩)) (.agg cs)).run P w = .ok () (w.setRow g cs) := by
  simp [Instr.storeAt, Instr.sureAddr, storeVar, sizeOf, typeInfo, hi, hsz, Value.cells, hst]
 have hg : w.grownBy (w.setRow g cs) (some g) := ⟨rfl, rfl, rfl, by simp [World.setRow], fun k hk hne => setRow_other w g k cs (fun e => hne (by rw [e]))⟩
 have hb := setRow_heap w g cur cs e (0, 0) hh
 generalize w.setRow g cs = w1 at hrun hg hb
 refine wpList_plain hgd fun K hK => ?_
 unfold Oper.wp
 simp only [execOp, ho, hp, hv]
 have hK' := hK a w1 (h w1 hb hg)
 have hN' : a.put o.dst undef = a := by rw [hN]; rfl
 simp only [Sem.run_bind, hrun, Result.andThen, Sem.run_pure]
 show K (a.put o.dst undef) w1
 rw [hN']; exact hK'
end
end Go.Proofs.YticndoihkfbpoaaGreatDoor
namespace Go.Proofs.YticndoihkfbpoaaGreatDoor
open Go Go.RowKit Go.Lib Go.Proofs.YticndoihkfbpoaaGreatDoorW.PrintWords Go.Proofs.YticndoihkfbpoaaGreatDoor.PScope
set_option maxRecDepth 100000
set_option linter.unusedSimpArgs false
set_option linter.unusedVariables false
theorem run_eqIn_func (w : World) (d : Nat) (t : TypeId) (f : Fn) (a b : Array Value) {ps rs : Array TypeId} {v : Bool} (h : Tryz.prog.underlying t = some (.func ps rs v)) : (Op.equalIn (d + 1) t (.func f a b) .nilFunc).run Tryz.prog w = .ok false w := by
 simp [Op.equalIn, run_underlying h]
theorem run_eqIn_nilfunc (w : World) (d : Nat) (t : TypeId) {ps rs : Array TypeId} {v : Bool} (h : Tryz.prog.underlying t = some (.func ps rs v)) : (Op.equalIn (d + 1) t .nilFunc .nilFunc).run Tryz.prog w = .ok true w := by
 simp [Op.equalIn, run_underlying h]
theorem run_neq_func (w : World) (t : TypeId) (f : Fn) (a b : Array Value) {ps rs : Array TypeId} {v : Bool} (h : Tryz.prog.underlying t = some (.func ps rs v)) : (binOp .neq t (.func f a b) .nilFunc).run Tryz.prog w = .ok (.bool true) w := by
 have h1 : (Op.equal t (.func f a b) .nilFunc).run Tryz.prog w = .ok false w := run_eqIn_func w 9999 t f a b h
 simp only [binOp]
 simp [h1]
theorem run_neq_nilfunc (w : World) (t : TypeId) {ps rs : Array TypeId} {v : Bool} (h : Tryz.prog.underlying t = some (.func ps rs v)) : (binOp .neq t .nilFunc .nilFunc).run Tryz.prog w = .ok (.bool false) w := by
 have h1 : (Op.equal t .nilFunc .nilFunc).run Tryz.prog w = .ok true w := run_eqIn_nilfunc w 9999 t h
 simp only [binOp]
 simp [h1]
theorem run_eql_func (w : World) (t : TypeId) (f : Fn) (a b : Array Value) {ps rs : Array TypeId} {v : Bool} (h : Tryz.prog.underlying t = some (.func ps rs v)) : (binOp .eql t (.func f a b) .nilFunc).run Tryz.prog w = .ok (.bool false) w := by
 have h1 : (Op.equal t (.func f a b) .nilFunc).run Tryz.prog w = .ok false w := run_eqIn_func w 9999 t f a b h
 simp only [binOp]
 simp [h1]
theorem run_eql_nilfunc (w : World) (t : TypeId) {ps rs : Array TypeId} {v : Bool} (h : Tryz.prog.underlying t = some (.func ps rs v)) : (binOp .eql t .nilFunc .nilFunc).run Tryz.prog w = .ok (.bool true) w := by
 have h1 : (Op.equal t .nilFunc .nilFunc).run Tryz.prog w = .ok true w := run_eqIn_nilfunc w 9999 t h
 simp only [binOp]
 simp [h1]
def opTab : List (ByteArray × Nat) := [(⟨#[43]⟩, 188), (⟨#[45]⟩, 189), (⟨#[42]⟩, 190), (⟨#[47]⟩, 191), (⟨#[37]⟩, 193), (⟨#[60]⟩, 195), (⟨#[60, 61]⟩, 196), (⟨#[61]⟩, 197), (⟨#[60, 62]⟩, 198), (⟨#[97, 110, 100]⟩, 199), (⟨#[111, 114]⟩, 200)]
def opNum (s : ByteArray) : Option Nat := (opTab.find? (fun x => decide (x.1 = s))).map (fun x => x.2)
def arithB (n : Nat) : Bool := [188, 189, 190, 191, 193].contains n
def OpIs (w : World) (s : ByteArray) (F : Value) : Prop :=
 (opNum s = none ∧ F = .nilFunc) ∨ (∃ n, opNum s = some n ∧ arithB n = true ∧ F = .func (.func n) #[] #[]) ∨
 (∃ n b, opNum s = some n ∧ arithB n = false ∧ F = .func (.func 218) #[] #[.pointer (some ⟨b, 0, none⟩)] ∧ w.heap[b]? = some (.cells #[.func (.func n) #[] #[]] 217 (0, 0)))
theorem opNum_isSome (s : ByteArray) : (opNum s).isSome = inL opL s := by
 unfold opNum inL
 rw [Option.isSome_map, Bool.eq_iff_iff, List.find?_isSome, List.any_eq_true]
 have e : opL = opTab.map (fun x => x.1) := rfl
 rw [e]
 constructor
 ·rintro ⟨x, hx, h⟩; exact ⟨x.1, List.mem_map.2 ⟨x, hx, rfl⟩, h⟩
 ·rintro ⟨y, hy, h⟩
  obtain ⟨x, hx, rfl⟩ := List.mem_map.1 hy
  exact ⟨x, hx, h⟩
theorem OpIs.isFn {w : World} {s : ByteArray} {F : Value} (h : OpIs w s F) : (F = .nilFunc ∧ inL opL s = false) ∨ ((∃ f c, F = .func f #[] c) ∧ inL opL s = true) := by
 rcases h with ⟨h, rfl⟩ | ⟨n, h, _, rfl⟩ | ⟨n, b, h, _, rfl, _⟩
 ·exact .inl ⟨rfl, by rw [← opNum_isSome, h]; rfl⟩
 ·exact .inr ⟨⟨_, _, rfl⟩, by rw [← opNum_isSome, h]; rfl⟩
 ·exact .inr ⟨⟨_, _, rfl⟩, by rw [← opNum_isSome, h]; rfl⟩
theorem arithmetic_calls (n : Nat) (w : World) : Calls Tryz.prog 187 #[.func (.func n) #[] #[]] w fun e w' => e = .returned (.agg #[.func (.func n) #[] #[], .int .i64 1, .int .i64 1]) ∧ Below w.heap.size w w' := by
 have HU := Aside0.mk Tryz.underlying213
 go_enter Tryz.func187, Tryz.ntmps187
 go_wp2_with ((with_reducible refine gate_store (t := 213) (p := 2) rfl ?_); refine store_whole rfl rfl 213 _ _ rfl w.heap.size _ 213 rfl (blk_new w (.cells #[.nilFunc, .int .i64 0, .int .i64 0] 213 (0, 0))) _ rfl rfl rfl (by simp [Value.oneCell']) ?_; intro wf hbf hgf; have HBF := Aside0.mk hbf; have HGF := Aside0.mk hgf; clear hbf hgf)
 refine bodyPost_ret (results_c1 rfl _ _ w.heap.size 213 _ (0, 0) _ rfl HBF.out HU.out rfl rfl) rfl ?_
 exact ⟨rfl, (below_alloc (Below.refl _ _) _).grown HGF.out (by simp) (fun k hk => by cases hk; exact Nat.le_refl _)⟩
theorem compares_calls (t : Int) (n : Nat) (w : World) : Calls Tryz.prog 194 #[.int .i64 t, .func (.func n) #[] #[]] w fun e w' => ∃ b, e = .returned (.agg #[.func (.func 218) #[] #[.pointer (some ⟨b, 0, none⟩)], .int .i64 t, .int .i64 2]) ∧ w'.heap[b]? = some (.cells #[.func (.func n) #[] #[]] 217 (0, 0)) ∧ Below w.heap.size w w' := by
 have HU := Aside0.mk Tryz.underlying213
 have hmf : ∀ (fn : Fn) (first cap : Array Value) (w : World), (Instr.makeFunc fn first cap).run Tryz.prog w = .ok (.func fn first cap) w := fun _ _ _ _ => rfl
 have hb1 : ((w.alloc (.cells #[.func (.func n) #[] #[]] 217 (0, 0))).alloc (.cells #[.nilFunc, .int .i64 0, .int .i64 0] 213 (0, 0))).heap[w.heap.size + 1]? = some (.cells #[.nilFunc, .int .i64 0, .int .i64 0] 213 (0, 0)) := by
  have := blk_new (w.alloc (.cells #[.func (.func n) #[] #[]] 217 (0, 0))) (.cells #[.nilFunc, .int .i64 0, .int .i64 0] 213 (0, 0))
  simpa using this
 have HB1 := Aside0.mk hb1
 clear hb1
 go_enter Tryz.func194, Tryz.ntmps194
 go_wp2_with ((with_reducible refine gate_store (t := 213) (p := 4) rfl ?_); refine store_whole rfl rfl 213 _ _ rfl (w.heap.size + 1) _ 213 rfl HB1.out _ rfl rfl rfl (by simp [Value.oneCell']) ?_; intro wf hbf hgf; have HBF := Aside0.mk hbf; have HGF := Aside0.mk hgf; clear hbf hgf)
 refine bodyPost_ret (results_c1 rfl _ _ (w.heap.size + 1) 213 _ (0, 0) _ rfl HBF.out HU.out rfl rfl) rfl ?_
 refine ⟨w.heap.size, rfl, ?_, (below_alloc (below_alloc (Below.refl _ _) _) _).grown HGF.out (by simp; omega) (fun k hk => by cases hk; omega)⟩
 exact (HGF.out.block _ (by simp; omega) (by intro e; injection e with e; omega)).trans (blk_alloc (blk_new w _) _)
set_option maxHeartbeats 4000000 in
theorem of_calls (s : ByteArray) (w : World) : Calls Tryz.prog 168 #[.string s] w fun e w' => ∃ F t1 t2, e = .returned (.agg #[F, .int .i64 t1, .int .i64 t2]) ∧ OpIs w' s F ∧ Below w.heap.size w w' := by
 have HU := Aside0.mk Tryz.underlying213
 have B2 := Aside0.mk (blk_new w (.cells #[.nilFunc, .int .i64 0, .int .i64 0] 213 (0, 0)))
 have HB := Aside0.mk (below_alloc (Below.refl w.heap.size w) (.cells #[.nilFunc, .int .i64 0, .int .i64 0] 213 (0, 0)))
 by_cases c1 : s = ⟨#[43]⟩
 ·subst c1
  go_enter Tryz.func168, Tryz.ntmps168
  go_wp2_with fail
  refine (arithmetic_calls 188 _).mono ?_
  rintro e w1 ⟨rfl, hb⟩
  replace B2 := Aside0.mk (below_blk B2.out hb)
  replace HB := Aside0.mk (below_step HB.out hb)
  have LBB := Aside0.mk (blk_lt B2.out)
  clear hb
  go_wp2_with ((with_reducible refine gate_store (t := 213) (p := 2) rfl ?_); refine store_whole rfl rfl 213 _ _ rfl w.heap.size _ 213 rfl B2.out _ rfl rfl rfl (by simp [Value.oneCell']) ?_; intro wf hbf hgf; have HBF := Aside0.mk hbf; have HGF := Aside0.mk hgf; clear hbf hgf)
  refine bodyPost_ret (results_c1 rfl _ _ w.heap.size 213 _ (0, 0) _ rfl HBF.out HU.out rfl rfl) rfl ?_
  exact ⟨_, _, _, rfl, .inr (.inl ⟨_, rfl, rfl, rfl⟩), HB.out.grown HGF.out HB.out.size (fun k hk => by cases hk; exact Nat.le_refl _)⟩
 by_cases c2 : s = ⟨#[45]⟩
 ·subst c2
  go_enter Tryz.func168, Tryz.ntmps168
  go_wp2_with fail
  refine (arithmetic_calls 189 _).mono ?_
  rintro e w1 ⟨rfl, hb⟩
  replace B2 := Aside0.mk (below_blk B2.out hb)
  replace HB := Aside0.mk (below_step HB.out hb)
  have LBB := Aside0.mk (blk_lt B2.out)
  clear hb
  go_wp2_with ((with_reducible refine gate_store (t := 213) (p := 2) rfl ?_); refine store_whole rfl rfl 213 _ _ rfl w.heap.size _ 213 rfl B2.out _ rfl rfl rfl (by simp [Value.oneCell']) ?_; intro wf hbf hgf; have HBF := Aside0.mk hbf; have HGF := Aside0.mk hgf; clear hbf hgf)
  refine bodyPost_ret (results_c1 rfl _ _ w.heap.size 213 _ (0, 0) _ rfl HBF.out HU.out rfl rfl) rfl ?_
  exact ⟨_, _, _, rfl, .inr (.inl ⟨_, rfl, rfl, rfl⟩), HB.out.grown HGF.out HB.out.size (fun k hk => by cases hk; exact Nat.le_refl _)⟩
 by_cases c3 : s = ⟨#[42]⟩
 ·subst c3
  go_enter Tryz.func168, Tryz.ntmps168
  go_wp2_with fail
  refine (arithmetic_calls 190 _).mono ?_
  rintro e w1 ⟨rfl, hb⟩
  replace B2 := Aside0.mk (below_blk B2.out hb)
  replace HB := Aside0.mk (below_step HB.out hb)
  have LBB := Aside0.mk (blk_lt B2.out)
  clear hb
  go_wp2_with ((with_reducible refine gate_store (t := 213) (p := 2) rfl ?_); refine store_whole rfl rfl 213 _ _ rfl w.heap.size _ 213 rfl B2.out _ rfl rfl rfl (by simp [Value.oneCell']) ?_; intro wf hbf hgf; have HBF := Aside0.mk hbf; have HGF := Aside0.mk hgf; clear hbf hgf)
  refine bodyPost_ret (results_c1 rfl _ _ w.heap.size 213 _ (0, 0) _ rfl HBF.out HU.out rfl rfl) rfl ?_
  exact ⟨_, _, _, rfl, .inr (.inl ⟨_, rfl, rfl, rfl⟩), HB.out.grown HGF.out HB.out.size (fun k hk => by cases hk; exact Nat.le_refl _)⟩
 by_cases c4 : s = ⟨#[47]⟩
 ·subst c4
  go_enter Tryz.func168, Tryz.ntmps168
  go_wp2_with fail
  refine (arithmetic_calls 191 _).mono ?_
  rintro e w1 ⟨rfl, hb⟩
  replace B2 := Aside0.mk (below_blk B2.out hb)
  replace HB := Aside0.mk (below_step HB.out hb)
  have LBB := Aside0.mk (blk_lt B2.out)
  clear hb
  go_wp2_with ((with_reducible refine gate_store (t := 213) (p := 2) rfl ?_); refine store_whole rfl rfl 213 _ _ rfl w.heap.size _ 213 rfl B2.out _ rfl rfl rfl (by simp [Value.oneCell']) ?_; intro wf hbf hgf; have HBF := Aside0.mk hbf; have HGF := Aside0.mk hgf; clear hbf hgf)
  refine bodyPost_ret (results_c1 rfl _ _ w.heap.size 213 _ (0, 0) _ rfl HBF.out HU.out rfl rfl) rfl ?_
  exact ⟨_, _, _, rfl, .inr (.inl ⟨_, rfl, rfl, rfl⟩), HB.out.grown HGF.out HB.out.size (fun k hk => by cases hk; exact Nat.le_refl _)⟩
 by_cases c5 : s = ⟨#[37]⟩
 ·subst c5
  go_enter Tryz.func168, Tryz.ntmps168
  go_wp2_with fail
  refine (arithmetic_calls 193 _).mono ?_
  rintro e w1 ⟨rfl, hb⟩
  replace B2 := Aside0.mk (below_blk B2.out hb)
  replace HB := Aside0.mk (below_step HB.out hb)
  have LBB := Aside0.mk (blk_lt B2.out)
  clear hb
  go_wp2_with ((with_reducible refine gate_store (t := 213) (p := 2) rfl ?_); refine store_whole rfl rfl 213 _ _ rfl w.heap.size _ 213 rfl B2.out _ rfl rfl rfl (by simp [Value.oneCell']) ?_; intro wf hbf hgf; have HBF := Aside0.mk hbf; have HGF := Aside0.mk hgf; clear hbf hgf)
  refine bodyPost_ret (results_c1 rfl _ _ w.heap.size 213 _ (0, 0) _ rfl HBF.out HU.out rfl rfl) rfl ?_
  exact ⟨_, _, _, rfl, .inr (.inl ⟨_, rfl, rfl, rfl⟩), HB.out.grown HGF.out HB.out.size (fun k hk => by cases hk; exact Nat.le_refl _)⟩
 by_cases c6 : s = ⟨#[60]⟩
 ·subst c6
  go_enter Tryz.func168, Tryz.ntmps168
  go_wp2_with fail
  refine (compares_calls 1 195 _).mono ?_
  rintro e w1 ⟨b, rfl, hblk, hb⟩
  have HQ := Aside0.mk hblk
  clear hblk
  replace B2 := Aside0.mk (below_blk B2.out hb)
  replace HB := Aside0.mk (below_step HB.out hb)
  have LBB := Aside0.mk (blk_lt B2.out)
  clear hb
  go_wp2_with ((with_reducible refine gate_store (t := 213) (p := 2) rfl ?_); refine store_whole rfl rfl 213 _ _ rfl w.heap.size _ 213 rfl B2.out _ rfl rfl rfl (by simp [Value.oneCell']) ?_; intro wf hbf hgf; have HBF := Aside0.mk hbf; have HGF := Aside0.mk hgf; clear hbf hgf)
  refine bodyPost_ret (results_c1 rfl _ _ w.heap.size 213 _ (0, 0) _ rfl HBF.out HU.out rfl rfl) rfl ?_
  refine ⟨_, _, _, rfl, .inr (.inr ⟨_, b, rfl, rfl, rfl, ?_⟩), HB.out.grown HGF.out HB.out.size (fun k hk => by cases hk; exact Nat.le_refl _)⟩
  have hne : b ≠ w.heap.size := by
   rintro rfl
   have h1 := HQ.out; rw [B2.out] at h1; cases h1
  exact (HGF.out.block _ (blk_lt HQ.out) (fun e => hne (by injection e))).trans HQ.out
 by_cases c7 : s = ⟨#[60, 61]⟩
 ·subst c7
  go_enter Tryz.func168, Tryz.ntmps168
  go_wp2_with fail
  refine (compares_calls 1 196 _).mono ?_
  rintro e w1 ⟨b, rfl, hblk, hb⟩
  have HQ := Aside0.mk hblk
  clear hblk
  replace B2 := Aside0.mk (below_blk B2.out hb)
  replace HB := Aside0.mk (below_step HB.out hb)
  have LBB := Aside0.mk (blk_lt B2.out)
  clear hb
  go_wp2_with ((with_reducible refine gate_store (t := 213) (p := 2) rfl ?_); refine store_whole rfl rfl 213 _ _ rfl w.heap.size _ 213 rfl B2.out _ rfl rfl rfl (by simp [Value.oneCell']) ?_; intro wf hbf hgf; have HBF := Aside0.mk hbf; have HGF := Aside0.mk hgf; clear hbf hgf)
  refine bodyPost_ret (results_c1 rfl _ _ w.heap.size 213 _ (0, 0) _ rfl HBF.out HU.out rfl rfl) rfl ?_
  refine ⟨_, _, _, rfl, .inr (.inr ⟨_, b, rfl, rfl, rfl, ?_⟩), HB.out.grown HGF.out HB.out.size (fun k hk => by cases hk; exact Nat.le_refl _)⟩
  have hne : b ≠ w.heap.size := by
   rintro rfl
   have h1 := HQ.out; rw [B2.out] at h1; cases h1
  exact (HGF.out.block _ (blk_lt HQ.out) (fun e => hne (by injection e))).trans HQ.out
 by_cases c8 : s = ⟨#[61]⟩
 ·subst c8
  go_enter Tryz.func168, Tryz.ntmps168
  go_wp2_with fail
  refine (compares_calls 0 197 _).mono ?_
  rintro e w1 ⟨b, rfl, hblk, hb⟩
  have HQ := Aside0.mk hblk
  clear hblk
  replace B2 := Aside0.mk (below_blk B2.out hb)
  replace HB := Aside0.mk (below_step HB.out hb)
  have LBB := Aside0.mk (blk_lt B2.out)
  clear hb
  go_wp2_with ((with_reducible refine gate_store (t := 213) (p := 2) rfl ?_); refine store_whole rfl rfl 213 _ _ rfl w.heap.size _ 213 rfl B2.out _ rfl rfl rfl (by simp [Value.oneCell']) ?_; intro wf hbf hgf; have HBF := Aside0.mk hbf; have HGF := Aside0.mk hgf; clear hbf hgf)
  refine bodyPost_ret (results_c1 rfl _ _ w.heap.size 213 _ (0, 0) _ rfl HBF.out HU.out rfl rfl) rfl ?_
  refine ⟨_, _, _, rfl, .inr (.inr ⟨_, b, rfl, rfl, rfl, ?_⟩), HB.out.grown HGF.out HB.out.size (fun k hk => by cases hk; exact Nat.le_refl _)⟩
  have hne : b ≠ w.heap.size := by
   rintro rfl
   have h1 := HQ.out; rw [B2.out] at h1; cases h1
  exact (HGF.out.block _ (blk_lt HQ.out) (fun e => hne (by injection e))).trans HQ.out
 by_cases c9 : s = ⟨#[60, 62]⟩
 ·subst c9
  go_enter Tryz.func168, Tryz.ntmps168
  go_wp2_with fail
  refine (compares_calls 0 198 _).mono ?_
  rintro e w1 ⟨b, rfl, hblk, hb⟩
  have HQ := Aside0.mk hblk
  clear hblk
  replace B2 := Aside0.mk (below_blk B2.out hb)
  replace HB := Aside0.mk (below_step HB.out hb)
  have LBB := Aside0.mk (blk_lt B2.out)
  clear hb
  go_wp2_with ((with_reducible refine gate_store (t := 213) (p := 2) rfl ?_); refine store_whole rfl rfl 213 _ _ rfl w.heap.size _ 213 rfl B2.out _ rfl rfl rfl (by simp [Value.oneCell']) ?_; intro wf hbf hgf; have HBF := Aside0.mk hbf; have HGF := Aside0.mk hgf; clear hbf hgf)
  refine bodyPost_ret (results_c1 rfl _ _ w.heap.size 213 _ (0, 0) _ rfl HBF.out HU.out rfl rfl) rfl ?_
  refine ⟨_, _, _, rfl, .inr (.inr ⟨_, b, rfl, rfl, rfl, ?_⟩), HB.out.grown HGF.out HB.out.size (fun k hk => by cases hk; exact Nat.le_refl _)⟩
  have hne : b ≠ w.heap.size := by
   rintro rfl
   have h1 := HQ.out; rw [B2.out] at h1; cases h1
  exact (HGF.out.block _ (blk_lt HQ.out) (fun e => hne (by injection e))).trans HQ.out
 by_cases c10 : s = ⟨#[97, 110, 100]⟩
 ·subst c10
  go_enter Tryz.func168, Tryz.ntmps168
  go_wp2_with fail
  refine (compares_calls 2 199 _).mono ?_
  rintro e w1 ⟨b, rfl, hblk, hb⟩
  have HQ := Aside0.mk hblk
  clear hblk
  replace B2 := Aside0.mk (below_blk B2.out hb)
  replace HB := Aside0.mk (below_step HB.out hb)
  have LBB := Aside0.mk (blk_lt B2.out)
  clear hb
  go_wp2_with ((with_reducible refine gate_store (t := 213) (p := 2) rfl ?_); refine store_whole rfl rfl 213 _ _ rfl w.heap.size _ 213 rfl B2.out _ rfl rfl rfl (by simp [Value.oneCell']) ?_; intro wf hbf hgf; have HBF := Aside0.mk hbf; have HGF := Aside0.mk hgf; clear hbf hgf)
  refine bodyPost_ret (results_c1 rfl _ _ w.heap.size 213 _ (0, 0) _ rfl HBF.out HU.out rfl rfl) rfl ?_
  refine ⟨_, _, _, rfl, .inr (.inr ⟨_, b, rfl, rfl, rfl, ?_⟩), HB.out.grown HGF.out HB.out.size (fun k hk => by cases hk; exact Nat.le_refl _)⟩
  have hne : b ≠ w.heap.size := by
   rintro rfl
   have h1 := HQ.out; rw [B2.out] at h1; cases h1
  exact (HGF.out.block _ (blk_lt HQ.out) (fun e => hne (by injection e))).trans HQ.out
 by_cases c11 : s = ⟨#[111, 114]⟩
 ·subst c11
  go_enter Tryz.func168, Tryz.ntmps168
  go_wp2_with fail
  refine (compares_calls 2 200 _).mono ?_
  rintro e w1 ⟨b, rfl, hblk, hb⟩
  have HQ := Aside0.mk hblk
  clear hblk
  replace B2 := Aside0.mk (below_blk B2.out hb)
  replace HB := Aside0.mk (below_step HB.out hb)
  have LBB := Aside0.mk (blk_lt B2.out)
  clear hb
  go_wp2_with ((with_reducible refine gate_store (t := 213) (p := 2) rfl ?_); refine store_whole rfl rfl 213 _ _ rfl w.heap.size _ 213 rfl B2.out _ rfl rfl rfl (by simp [Value.oneCell']) ?_; intro wf hbf hgf; have HBF := Aside0.mk hbf; have HGF := Aside0.mk hgf; clear hbf hgf)
  refine bodyPost_ret (results_c1 rfl _ _ w.heap.size 213 _ (0, 0) _ rfl HBF.out HU.out rfl rfl) rfl ?_
  refine ⟨_, _, _, rfl, .inr (.inr ⟨_, b, rfl, rfl, rfl, ?_⟩), HB.out.grown HGF.out HB.out.size (fun k hk => by cases hk; exact Nat.le_refl _)⟩
  have hne : b ≠ w.heap.size := by
   rintro rfl
   have h1 := HQ.out; rw [B2.out] at h1; cases h1
  exact (HGF.out.block _ (blk_lt HQ.out) (fun e => hne (by injection e))).trans HQ.out
 have hnone : opNum s = none := by
  have h : inL opL s = false := by
   unfold inL
   rw [List.any_eq_false]
   intro x hx
   simp only [opL, List.mem_cons, List.not_mem_nil, or_false] at hx
   intro h
   have e := of_decide_eq_true h
   subst e
   rcases hx with h | h | h | h | h | h | h | h | h | h | h <;> first | exact c1 h | exact c2 h | exact c3 h | exact c4 h | exact c5 h | exact c6 h | exact c7 h | exact c8 h | exact c9 h | exact c10 h | exact c11 h
  rw [← opNum_isSome] at h
  cases hq : opNum s with
  | none => rfl
  | some n => rw [hq] at h; cases h
 have d1 : (s.toList == [43]) = false := beq_eq_false_iff_ne.2 (fun h => c1 (toList_inj (by simpa using h)))
 have d2 : (s.toList == [45]) = false := beq_eq_false_iff_ne.2 (fun h => c2 (toList_inj (by simpa using h)))
 have d3 : (s.toList == [42]) = false := beq_eq_false_iff_ne.2 (fun h => c3 (toList_inj (by simpa using h)))
 have d4 : (s.toList == [47]) = false := beq_eq_false_iff_ne.2 (fun h => c4 (toList_inj (by simpa using h)))
 have d5 : (s.toList == [37]) = false := beq_eq_false_iff_ne.2 (fun h => c5 (toList_inj (by simpa using h)))
 have d6 : (s.toList == [60]) = false := beq_eq_false_iff_ne.2 (fun h => c6 (toList_inj (by simpa using h)))
 have d7 : (s.toList == [60, 61]) = false := beq_eq_false_iff_ne.2 (fun h => c7 (toList_inj (by simpa using h)))
 have d8 : (s.toList == [61]) = false := beq_eq_false_iff_ne.2 (fun h => c8 (toList_inj (by simpa using h)))
 have d9 : (s.toList == [60, 62]) = false := beq_eq_false_iff_ne.2 (fun h => c9 (toList_inj (by simpa using h)))
 have d10 : (s.toList == [97, 110, 100]) = false := beq_eq_false_iff_ne.2 (fun h => c10 (toList_inj (by simpa using h)))
 have d11 : (s.toList == [111, 114]) = false := beq_eq_false_iff_ne.2 (fun h => c11 (toList_inj (by simpa using h)))
 have HN := Aside0.mk hnone
 clear hnone c1 c2 c3 c4 c5 c6 c7 c8 c9 c10 c11
 go_enter Tryz.func168, Tryz.ntmps168
 go_wp2_with ((with_reducible refine gate_store (t := 213) (p := 2) rfl ?_); refine store_whole rfl rfl 213 _ _ rfl w.heap.size _ 213 rfl B2.out _ rfl rfl rfl (by simp [Value.oneCell']) ?_; intro wf hbf hgf; have HBF := Aside0.mk hbf; have HGF := Aside0.mk hgf; clear hbf hgf)
 refine bodyPost_ret (results_c1 rfl _ _ w.heap.size 213 _ (0, 0) _ rfl HBF.out HU.out rfl rfl) rfl ?_
 exact ⟨_, _, _, rfl, .inl ⟨HN.out, rfl⟩, HB.out.grown HGF.out HB.out.size (fun k hk => by cases hk; exact Nat.le_refl _)⟩
set_option maxHeartbeats 4000000 in
theorem takes2_calls (s : ByteArray) (w : World) : Calls Tryz.prog 212 #[.string s, .int .i64 2] w fun e w' => (∃ t1 t2, e = .returned (.tuple #[.int .i64 t1, .int .i64 t2, .bool (inL opL s)])) ∧ Below w.heap.size w w' := by
 go_enter Tryz.func212, Tryz.ntmps212
 go_wp2_with fail
 refine (of_calls s _).mono ?_
 rintro e w1 ⟨F, t1, t2, rfl, hop, hb⟩
 have HB := Aside0.mk hb
 clear hb
 rcases hop.isFn with ⟨rfl, hq⟩ | ⟨⟨f, c, rfl⟩, hq⟩
 ·have HQ := Aside0.mk hq
  clear hop hq
  have hu1 := fun W => run_neq_nilfunc W 210 Tryz.underlying210
  go_wp2_with ((with_reducible refine gate_store (t := 213) (p := 7) rfl ?_); refine store_whole rfl rfl 213 _ _ rfl w1.heap.size _ 213 rfl (blk_new _ _) _ rfl rfl rfl (by simp [Value.oneCell']) ?_; intro w2 hb2 hg2; have B7 := Aside0.mk hb2; replace HB := Aside0.mk (below_as HB.out hg2); have c0 := (blk_cell hb2 0).trans rfl; have c1 := (blk_cell hb2 1).trans rfl; have c2 := (blk_cell hb2 2).trans rfl; clear hb2 hg2)
  go_quiet (fail)
  go_wp2_with fail
  go_ret3
  exact ⟨⟨t1, t2, by rw [HQ.out]; rfl⟩, pw_below_drewN HB.out nq⟩
 ·have HQ := Aside0.mk hq
  clear hop hq
  have hu1 := fun W => run_neq_func W 210 f #[] c Tryz.underlying210
  go_wp2_with ((with_reducible refine gate_store (t := 213) (p := 7) rfl ?_); refine store_whole rfl rfl 213 _ _ rfl w1.heap.size _ 213 rfl (blk_new _ _) _ rfl rfl rfl (by simp [Value.oneCell']) ?_; intro w2 hb2 hg2; have B7 := Aside0.mk hb2; replace HB := Aside0.mk (below_as HB.out hg2); have c0 := (blk_cell hb2 0).trans rfl; have c1 := (blk_cell hb2 1).trans rfl; have c2 := (blk_cell hb2 2).trans rfl; clear hb2 hg2)
  go_quiet (fail)
  go_wp2_with fail
  go_ret3
  exact ⟨⟨t1, t2, by rw [HQ.out]; rfl⟩, pw_below_drewN HB.out nq⟩
end Go.Proofs.YticndoihkfbpoaaGreatDoor
