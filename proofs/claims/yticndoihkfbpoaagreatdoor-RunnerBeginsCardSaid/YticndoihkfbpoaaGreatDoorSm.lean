/- Small words of this seat's own: results that lie in memory, blocks of five cells. -/
import Derived.WalkKit
import Derived.KernelRfl
import Derived.Lib.Hide
import Derived.RowKit
import Derived.Shelf.Abstract
import Derived.Deep.QuietTactic
import Derived.BigQuiet
import Derived.Test.YticndoihkfbpoaaGreatDoorProg
import Derived.Test.YticndoihkfbpoaaGreatDoorWWords
import Derived.Test.YticndoihkfbpoaaGreatDoorWOne
import Derived.Maps.OwnOps
namespace Go.Proofs.YticndoihkfbpoaaGreatDoor
open Go Go.RowKit Go.Lib Go.Proofs.YticndoihkfbpoaaGreatDoorW.PrintWords
set_option maxRecDepth 100000
set_option linter.unusedSimpArgs false
set_option linter.unusedVariables false

/-- A result that lies in memory, alone. -/
theorem results_c1 {P : Program} {fn : Func} {p : Tmp} {ty : TypeId} (h : fn.results = #[.cell p ty]) (tmps : Array Value) (w : World) (g : Nat) (t : TypeId) (cs : Array Value) (fr : Nat × Nat) (d : TypeDesc)
    (hp : tmps.getD p undef = .pointer (some ⟨g, 0, none⟩)) (hg : w.heap[g]? = some (.cells cs t fr))
    (hu : P.underlying ty = some d) (hd : (match d with | .struct _ | .array _ _ => true | _ => false) = true) (hi : (P.info? ty).map (·.size) = some cs.size) :
    (results fn tmps).run P w = .ok (.agg cs) w := by
  have hp' : tmps[p]?.getD undef = .pointer (some ⟨g, 0, none⟩) := by simpa using hp
  simp [results, h, hp', asAddr, run_loadVar_row w g t ty cs fr d hg hu hd hi]
theorem below_blk {W W1 : World} {g : Nat} {o : Obj} (h : W.heap[g]? = some o) (hb : Below W.heap.size W W1) : W1.heap[g]? = some o := (hb.block g (Array.getElem?_eq_some_iff.1 h).1).trans h

/-- All five are written. -/
abbrev five (W : World) (g : Nat) (a b c d e : Value) : World := ((((W.setCell ⟨g, 0, none⟩ a).setCell ⟨g, 1, none⟩ b).setCell ⟨g, 2, none⟩ c).setCell ⟨g, 3, none⟩ d).setCell ⟨g, 4, none⟩ e
theorem five_heap {W : World} {g : Nat} {t : TypeId} {a b c d e : Value} (h : W.heap[g]? = some (.cells #[a, b, c, d, e] t (0, 0))) (a' b' c' d' e' : Value) : (five W g a' b' c' d' e').heap[g]? = some (.cells #[a', b', c', d', e'] t (0, 0)) :=
  blk_put (cs := #[a', b', c', d', e]) (blk_put (cs := #[a', b', c', d, e]) (blk_put (cs := #[a', b', c, d, e]) (blk_put (cs := #[a', b, c, d, e]) (blk_put (cs := #[a, b, c, d, e]) h 0 a' rfl) 1 b' rfl) 2 c' rfl) 3 d' rfl) 4 e' rfl
end Go.Proofs.YticndoihkfbpoaaGreatDoor
namespace Go.Proofs.YticndoihkfbpoaaGreatDoor
open Go Go.RowKit Go.Lib Go.ChangeMaps Go.MapKept Go.Proofs.YticndoihkfbpoaaGreatDoorW.PrintWords
set_option maxRecDepth 100000
set_option linter.unusedSimpArgs false
set_option linter.unusedVariables false

/-- Block b is a map whose entries are just those that f says. -/
def StrMap (w : World) (b : Nat) (f : ByteArray → Option Value) : Prop :=
  ∃ es clock, w.heap[b]? = some (.map es clock) ∧ (∀ x ∈ es.toList, IsKey .string x.key) ∧ (es.toList.map (·.key)).Nodup ∧ ∀ s v, f s = some v ↔ ∃ e ∈ es.toList, e.key = .string s ∧ e.val = v

/-- f, turned at one key. -/
def mupd {α : Type} (f : ByteArray → Option α) (s : ByteArray) (v : α) : ByteArray → Option α := fun t => if t = s then some v else f t
/-- A map of values of one kind. -/
def menc {α : Type} (enc : α → Value) (f : ByteArray → Option α) : ByteArray → Option Value := fun s => (f s).map enc
theorem menc_mupd {α : Type} (enc : α → Value) (f : ByteArray → Option α) (s : ByteArray) (v : α) : mupd (menc enc f) s (enc v) = menc enc (mupd f s v) := by
  funext t
  by_cases e : t = s
  · simp [mupd, menc, e]
  · simp [mupd, menc, e]

theorem StrMap.made (w : World) : StrMap (w.alloc (.map #[] 0)) w.heap.size (fun _ => none) :=
  ⟨#[], 0, (MapKept.heap_alloc w _).1, by simp, by simp, by simp⟩
theorem StrMap.lt {w : World} {b : Nat} {f : ByteArray → Option Value} (h : StrMap w b f) : b < w.heap.size := by
  obtain ⟨es, clock, hb, _⟩ := h
  exact (Array.getElem?_eq_some_iff.1 hb).1
theorem StrMap.kept {w w1 : World} {b : Nat} {f : ByteArray → Option Value} (h : StrMap w b f) (hb : w1.heap[b]? = w.heap[b]?) : StrMap w1 b f := by
  obtain ⟨es, clock, h1, h2⟩ := h
  exact ⟨es, clock, hb.trans h1, h2⟩
theorem StrMap.below {w w1 : World} {b : Nat} {f : ByteArray → Option Value} (h : StrMap w b f) (hb : Below w.heap.size w w1) : StrMap w1 b f := h.kept (hb.block b h.lt)
theorem StrMap.look {P : Program} {w : World} {b : Nat} {f : ByteArray → Option Value} (h : StrMap w b f) {t k e : TypeId} (ht : P.underlying t = some (.map k e)) (hk : P.underlying k = some .string)
    {z : Value} (hz : (zeroValue e).run P w = .ok z w) (s : ByteArray) (c : Bool) :
    (Instr.lookup t (.map (some b)) (.string s) c).run P w = .ok (if c then .tuple #[(f s).getD z, .bool (f s).isSome] else (f s).getD z) w := by
  obtain ⟨es, clock, hb, hI, hN, hf⟩ := h
  have hx : IsKey .string (.string s) := trivial
  rcases findNow_spec hx es.toList 0 hI with ⟨h1, h2⟩ | ⟨j, e0, h1, h2, h3⟩
  · have hn : f s = none := by
      cases hfs : f s with
      | none => rfl
      | some v => obtain ⟨e, he, hk', _⟩ := (hf s v).1 hfs; exact absurd hk' (h2 e he)
    simp [Instr.lookup, run_underlying ht, MapKept.run_getObj_map hb, run_checkKey hk hx, run_findKey hk h1, hz, Result.andThen, hn]
  · have hs : f s = some e0.val := (hf s _).2 ⟨e0, List.mem_of_getElem? h2, h3, rfl⟩
    simp [Instr.lookup, run_underlying ht, MapKept.run_getObj_map hb, run_checkKey hk hx, run_findKey hk h1, Result.andThen, hs]

theorem StrMap.store {P : Program} {w : World} {b : Nat} {f : ByteArray → Option Value} (h : StrMap w b f) {t k e : TypeId} (ht : P.underlying t = some (.map k e)) (hk : P.underlying k = some .string) (s : ByteArray) (v : Value) :
    ∃ w', (Instr.mapUpdate t (.map (some b)) (.string s) v).run P w = .ok () w' ∧ StrMap w' b (mupd f s v) ∧ w.grownBy w' (some b) := by
  obtain ⟨es, clock, hb, hI, hN, hf⟩ := h
  have hx : IsKey .string (.string s) := trivial
  have hgrow : ∀ es' clock', w.grownBy (setBlock w b (.map es' clock')) (some b) := fun es' clock' => ⟨rfl, rfl, rfl, by simp [setBlock], fun i _ hi => heap_setBlock_other hb _ (fun e => hi (by rw [e]))⟩
  rcases findNow_spec hx es.toList 0 hI with ⟨h1, h2⟩ | ⟨j, e0, h1, h2, h3⟩
  · refine ⟨setBlock w b (.map (es.push ⟨.string s, v, clock⟩) (clock + 1)), ?_, ⟨_, _, heap_setBlock_same hb _, ?_, ?_, ?_⟩, hgrow _ _⟩
    · simp [Instr.mapUpdate, run_underlying ht, MapKept.run_getObj_map hb, run_checkKey hk hx, run_findKey hk h1, MapKept.run_setObj_map _ hb, Result.andThen, setBlock]
    · intro x hx'
      simp only [Array.toList_push, List.mem_append, List.mem_singleton] at hx'
      rcases hx' with hx' | rfl
      · exact hI x hx'
      · exact hx
    · simp only [Array.toList_push, List.map_append, List.map_cons, List.map_nil]
      refine List.nodup_append.2 ⟨hN, by simp, ?_⟩
      intro a ha b' hb' e1
      obtain ⟨x, hx1, rfl⟩ := List.mem_map.1 ha
      rw [List.mem_singleton] at hb'
      exact h2 x hx1 (e1.trans hb')
    · intro t u
      simp only [Array.toList_push, List.mem_append, List.mem_singleton, mupd]
      by_cases e1 : t = s
      · subst e1
        rw [if_pos rfl]
        constructor
        · rintro ⟨⟩; exact ⟨_, .inr rfl, rfl, rfl⟩
        · rintro ⟨x, hx1 | rfl, hk1, rfl⟩
          · exact absurd hk1 (h2 x hx1)
          · rfl
      · rw [if_neg e1, hf]
        constructor
        · rintro ⟨x, hx1, r⟩; exact ⟨x, .inl hx1, r⟩
        · rintro ⟨x, hx1 | rfl, hk1, rfl⟩
          · exact ⟨x, hx1, hk1, rfl⟩
          · exact absurd (by injection hk1 with hk1; exact hk1.symm) e1
  · have hj : es[j]? = some e0 := by simpa using h2
    have hjl : j < es.toList.length := (List.getElem?_eq_some_iff.1 h2).1
    have hkeyf : ∀ e', es[j]? = some e' → ({ e' with key := .string s, val := v } : MapEntry).key = e'.key := fun e' he' => by rw [hj] at he'; cases he'; exact h3.symm
    have hkeys := modify_keys j (fun e' => { e' with key := .string s, val := v }) hkeyf
    have hlist : (es.modify j (fun e' => { e' with key := .string s, val := v })).toList = es.toList.set j { e0 with key := .string s, val := v } := by rw [Array.toList_modify, modify_eq_set _ _ _ _ h2]
    have other : ∀ i x, es.toList[i]? = some x → x.key = .string s → i = j := by
      intro i x hi hk1
      have a1 : (es.toList.map (·.key))[i]? = some (.string s) := by rw [List.getElem?_map, hi]; simp [hk1]
      have a2 : (es.toList.map (·.key))[j]? = some (.string s) := by rw [List.getElem?_map, h2]; simp [h3]
      have hi' : i < (es.toList.map (·.key)).length := (List.getElem?_eq_some_iff.1 a1).1
      exact (List.getElem?_inj hi' hN).1 (a1.trans a2.symm)
    refine ⟨setBlock w b (.map (es.modify j (fun e' => { e' with key := .string s, val := v })) clock), ?_, ⟨_, _, heap_setBlock_same hb _, ?_, ?_, ?_⟩, hgrow _ _⟩
    · simp [Instr.mapUpdate, run_underlying ht, MapKept.run_getObj_map hb, run_checkKey hk hx, run_findKey hk h1, hj, h3, run_keyThatStays hx, MapKept.run_setObj_map _ hb, Result.andThen, setBlock]
    · exact isKey_modify hI j _ hkeyf
    · rw [hkeys]; exact hN
    · intro t u
      rw [hlist]
      simp only [mupd]
      by_cases e1 : t = s
      · subst e1
        rw [if_pos rfl]
        constructor
        · rintro ⟨⟩; exact ⟨{ e0 with key := .string t, val := v }, List.mem_iff_getElem.2 ⟨j, by simpa using hjl, by simp⟩, rfl, rfl⟩
        · rintro ⟨x, hx1, hk1, rfl⟩
          obtain ⟨i, hi⟩ := List.getElem?_of_mem hx1
          rw [List.getElem?_set] at hi
          split at hi
          · rename_i hij
            subst hij
            first | (cases hi; rfl) | (rw [if_pos hjl] at hi; cases hi; rfl)
          · rename_i hij
            exact absurd (other i x hi hk1) (fun e => hij e.symm)
      · rw [if_neg e1, hf]
        constructor
        · rintro ⟨x, hx1, hk1, rfl⟩
          obtain ⟨i, hi⟩ := List.getElem?_of_mem hx1
          have hij : i ≠ j := by rintro rfl; rw [h2] at hi; cases hi; rw [h3] at hk1; injection hk1 with hk1; exact e1 hk1.symm
          exact ⟨x, List.mem_of_getElem? (i := i) (by rw [List.getElem?_set_ne (fun e => hij e.symm)]; exact hi), hk1, rfl⟩
        · rintro ⟨x, hx1, hk1, rfl⟩
          rcases List.mem_or_eq_of_mem_set hx1 with hx1 | rfl
          · exact ⟨x, hx1, hk1, rfl⟩
          · exact absurd (by injection hk1 with hk1; exact hk1.symm) e1

section
variable {P : Program} {ops : Array Oper} {rest : List Oper} {o : Oper} {a : Act} {Q : Exit → Act → World → Prop} {w : World}
/-- 'm[k]' at the operation. -/
theorem look_str (hg : o.guard = none) (m x : Operand) (t : TypeId) (hop : o.op = Op.lookup t m x false) (k e : TypeId) (ht : P.underlying t = some (.map k e)) (hk : P.underlying k = some .string)
    (z : Value) (hz : (zeroValue e).run P w = .ok z w) (b : Nat) (f : ByteArray → Option Value) (hm : a.eval m = .map (some b)) (h : StrMap w b f) (s : ByteArray) (hx : a.eval x = .string s)
    (r : Value) (hr : (f s).getD z = r) (hK : wpList P ops Q rest (a.put o.dst r) w) : wpList P ops Q (o :: rest) a w := by
  refine wpList_plain hg fun K' hK' => ?_
  have hrun := h.look ht hk hz s false
  subst hr
  unfold Oper.wp
  simp [execOp, hop, hm, hx, hrun, Result.andThen]
  exact hK' _ _ hK
/-- 'make(map[string]T)' at the operation. -/
theorem make_str (hg : o.guard = none) (t : TypeId) (hop : o.op = Op.makeMap t none)
    (hK : ∀ g, g = w.heap.size → ∀ w', StrMap w' g (fun _ => none) → Below w.heap.size w w' → wpList P ops Q rest (a.put o.dst (.map (some g))) w') : wpList P ops Q (o :: rest) a w := by
  refine wpList_plain hg fun K' hK' => ?_
  unfold Oper.wp
  simp [execOp, hop, run_makeMap, Result.andThen]
  exact hK' _ _ (hK _ rfl _ (StrMap.made w) (below_alloc (Below.refl _ _) _))
/-- A struct stored whole into a block of the call's own. -/
theorem store_whole (hgd : o.guard = none) (hN : o.dst = none) (t : TypeId) (p v : Operand) (ho : o.op = .store t p v) (g : Nat) (cur : Array Value) (e : TypeId) (hp : a.eval p = .pointer (some ⟨g, 0, none⟩))
    (hh : w.heap[g]? = some (.cells cur e (0, 0))) (cs : Array Value) (hv : a.eval v = .agg cs) (hs : (P.info? t).map (·.size) = some cs.size) (hc : cs.size = cur.size) (h1 : ∀ q ∈ cs.toList, q.oneCell' = true)
    (h : ∀ w', w'.heap[g]? = some (.cells cs e (0, 0)) → w.grownBy w' (some g) → wpList P ops Q rest a w') : wpList P ops Q (o :: rest) a w := by
  have hst := run_storeCells_at P g 0 e cs.toList 0 cur w hh (by simp [hc]) h1
  have hrow : (cur.toList.take (0 + 0) ++ cs.toList ++ cur.toList.drop (0 + 0 + cs.toList.length)).toArray = cs := by
    rw [List.drop_of_length_le (by simp [hc]), List.append_nil]; simp
  rw [hrow] at hst
  obtain ⟨i, hi, hsz⟩ := Option.map_eq_some_iff.1 hs
  have hrun : (Instr.storeAt t (.pointer (some ⟨g, 0, none⟩)) (.agg cs)).run P w = .ok () (w.setRow g cs) := by
    simp [Instr.storeAt, Instr.sureAddr, storeVar, sizeOf, typeInfo, hi, hsz, Value.cells, hst]
  have hg : w.grownBy (w.setRow g cs) (some g) := ⟨rfl, rfl, rfl, by simp [World.setRow], fun k hk hne => setRow_other w g k cs (fun e => hne (by rw [e]))⟩
  have hb := setRow_heap w g cur cs e (0, 0) hh
  generalize w.setRow g cs = w1 at hrun hg hb
  refine wpList_plain hgd fun K hK => ?_
  unfold Oper.wp
  simp only [execOp, ho, hp, hv]
  have hK' := hK a w1 (h w1 hb hg)
  have hN' : a.put o.dst undef = a := by rw [hN]; rfl
  simp only [Sem.run_bind, hrun, Result.andThen, Sem.run_pure]
  show K (a.put o.dst undef) w1
  rw [hN']; exact hK'
end
end Go.Proofs.YticndoihkfbpoaaGreatDoor
