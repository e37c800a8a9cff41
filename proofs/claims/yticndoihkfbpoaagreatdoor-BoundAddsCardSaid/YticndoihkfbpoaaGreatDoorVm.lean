/- The law BoundAdds: its walk. -/
import Derived.StillTailTactics
import Derived.Deep.RegionLaw
import Derived.Test.YticndoihkfbpoaaGreatDoorVl
namespace Go.Proofs.YticndoihkfbpoaaGreatDoor
open Go Go.RowKit Go.Lib Go.Proofs.YticndoihkfbpoaaGreatDoorW.PrintWords Go.Proofs.YticndoihkfbpoaaGreatDoor.PScope
set_option maxRecDepth 100000
set_option linter.unusedSimpArgs false
set_option linter.unusedVariables false

/-- A kind whose elements are read in one world. -/
def kRead {α : Type} (w0 : World) (d : Kd α) : Kd α where
  sz := d.sz
  E := []
  K := fun _ x cs => d.K w0 x cs
  M := fun _ _ _ x cs => d.K w0 x cs
  K_len := fun h => d.K_len h
  K_one := fun h => d.K_one h
  K_below := fun _ h => h
  K_of_M := fun h => h
  M_mono := fun _ h => h
  M_bound := fun h => h
  M_move := fun _ h => h
  M_lower := fun _ h => h
theorem kRead_C {α : Type} {d : Kd α} {w0 w1 : World} {A : Option Addr} {n : Nat} {xs : List α} (h : (kRead w0 d).C w1 A n xs) (hB : Below w0.heap.size w0 w1) : d.C w1 A n xs :=
  ⟨h.1, h.2.1, fun hn => by
    obtain ⟨ad, e, hh⟩ := h.2.2 hn
    exact ⟨ad, e, fun j q hj => by obtain ⟨cs, k1, k2, k3⟩ := hh j q hj; exact ⟨cs, k1, d.K_below hB k2, k3⟩⟩⟩
theorem kRead_row {α : Type} {d : Kd α} {w0 W : World} {A : Option Addr} {n : Nat} {xs : List α} (h : d.C w0 A n xs) (hB : Below w0.heap.size w0 W) : (kRead w0 d).C W A n xs :=
  ⟨h.1, h.2.1, fun hn => by
    obtain ⟨ad, e, hh⟩ := h.2.2 hn
    exact ⟨ad, e, fun j q hj => by obtain ⟨cs, k1, k2, k3⟩ := hh j q hj; exact ⟨cs, k1, k2, fun i u hu => (hB.cell (World.block_lt_of_cell? w0 _ (k3 i u hu))).trans (k3 i u hu)⟩⟩⟩
theorem grown_none {W w1 : World} {v : Value} {g : Nat} {ob : Obj} (hg : W.grownBy w1 v.ownBlock) (hv : v.ownBlock = none) (h : W.heap[g]? = some ob) : w1.heap[g]? = some ob :=
  (hg.block g (blk_lt h) (by rw [hv]; intro e; cases e)).trans h
theorem grown_ok2 {α : Type} {d : Kd α} {e : TypeId} {W w1 : World} {base : Nat} {v : Value} {xs : List α} {g1 g2 g : Nat} {ob : Obj} (h : d.R e W base (fun k => k ≠ g1 ∧ k ≠ g2) v xs) (hg : W.grownBy w1 v.ownBlock) (hb : W.heap[g]? = some ob) (hgg : g = g1 ∨ g = g2) : w1.heap[g]? = some ob :=
  (hg.block g (blk_lt hb) (fun e => by have := h.1 g e.symm; omega)).trans hb
theorem fresh_ne2 {W : World} {g1 g2 : Nat} {ob1 ob2 : Obj} (h1 : W.heap[g1]? = some ob1) (h2 : W.heap[g2]? = some ob2) : ∀ k, W.heap.size ≤ k → k ≠ g1 ∧ k ≠ g2 := fun k hk => by have := blk_lt h1; have := blk_lt h2; omega
theorem lit_one {α : Type} {d : Kd α} {W : World} {g : Nat} {e : TypeId} {cs : List Value} {x : α} (h : W.heap[g]? = some (.cells cs.toArray e (0, 0))) (hK : d.K W x cs) : d.C W (some ⟨g, 0, none⟩) 1 [x] := by
  refine ⟨rfl, by decide, fun _ => ⟨⟨g, 0, none⟩, rfl, fun j q hj => ?_⟩⟩
  cases j with
  | succ j => simp at hj
  | zero =>
    simp at hj
    subst hj
    refine ⟨cs, d.K_len hK, hK, fun i u hu => ?_⟩
    rw [Nat.zero_mul, Nat.zero_add]
    have := cell_of_row W g i cs.toArray e (0, 0) h
    cases i with
    | zero => simpa [Addr.add] using this.trans (by simpa using hu)
    | succ i => simpa [Addr.add] using this.trans (by simpa using hu)
theorem below_al {a b : World} (h : Below a.heap.size a b) {o : Obj} : Below a.heap.size a (b.alloc o) := below_alloc h o
theorem blk_at {w : World} {o o' : Obj} {g : Nat} (h : w.heap[g]? = some o) : (w.alloc o').heap[g]? = some o := blk_alloc h o'
/-- A cell of a row in a block of its own. -/
theorem at_off {W : World} {a : Addr} {cs : Array Value} {t : TypeId} (hz : a = ⟨a.block, 0, none⟩) (h : W.heap[a.block]? = some (.cells cs t (0, 0))) {i j : Nat} {u : Value} (hk : cs[i + j]? = some u) : W.cell? ⟨(a.add i).block, (a.add i).off + j, none⟩ = some u := by
  rw [add_out hz, blk_cell h]; exact hk
theorem at_frozen {W : World} {a : Addr} {cs : Array Value} {t : TypeId} (hz : a = ⟨a.block, 0, none⟩) (h : W.heap[a.block]? = some (.cells cs t (0, 0))) (i j : Nat) : W.frozen? ⟨(a.add i).block, (a.add i).off + j, none⟩ = false := by
  rw [add_out hz]; simp [World.frozen?, h]

/-! ### a statement more -/
def newS : FS := .mk 1 ⟨#[120]⟩ 0 0 [] ⟨1, ⟨#[]⟩, 0, [], []⟩ [] []
def addS (x : FF) : FF := { x with body := x.body ++ [newS] }
theorem adds_law {l : List FF} (hok : flatOk l = true) : flatOk (l.set (l.length - 1) (addS (l.getD (l.length - 1) zFF))) = true ∧ ∀ mx, lastCost mx (l.set (l.length - 1) (addS (l.getD (l.length - 1) zFF))) = min (lastCost mx l + 1) 1073741824 := by
  have hpos := flat_pos hok
  obtain ⟨r, x, rfl⟩ : ∃ r x, l = r ++ [x] := by
    cases hr : l.reverse with
    | nil => rw [List.reverse_eq_nil_iff] at hr; rw [hr] at hpos; simp at hpos
    | cons x r => exact ⟨r.reverse, x, by rw [← List.reverse_reverse l, hr, List.reverse_cons]⟩
  have h1 : (r ++ [x]).length - 1 = r.length := by simp
  have h2 : (r ++ [x]).getD r.length zFF = x := by rw [List.getD_eq_getElem?_getD]; simp
  have h3 : (r ++ [x]).set r.length (addS x) = r ++ [addS x] := by rw [List.set_append_right _ _ (Nat.le_refl _), Nat.sub_self]; rfl
  rw [h1, h2, h3]
  exact ⟨by unfold addS; rw [flatOk_add r x newS (by decide) (by decide) rfl]; exact hok, fun mx => lastCost_add mx r x newS (by decide) (by decide)⟩
theorem addS_small {l : List FF} (hl : FlatSmall l) (h2 : ∀ f ∈ l, (f.body.length + 2) * 192 ≤ 140737488355328) (k : Nat) (hk : k < l.length) : FlatSmall (l.set k (addS (l.getD k zFF))) := by
  have hx := getD_mem hk zFF
  have hs := hl.body _ hx
  have hb := h2 _ hx
  generalize l.getD k zFF = x at hx hs hb ⊢
  have hsm : Small (addS x).body := by
    refine ⟨x.body ++ [newS], by rw [List.length_append, List.length_singleton]; omega, fun s hs' => ?_, fun s hs' a ha => ?_⟩
    · rcases List.mem_append.1 hs' with h | h
      · exact hs.arms s h
      · obtain rfl := List.mem_singleton.1 h; decide
    · rcases List.mem_append.1 hs' with h | h
      · exact hs.sub s h a ha
      · obtain rfl := List.mem_singleton.1 h; cases ha
  refine ⟨by rw [List.length_set]; exact hl.len, fun f hf => ?_, fun f hf => ?_⟩
  · rcases List.mem_or_eq_of_mem_set hf with h | h
    · exact hl.body f h
    · rw [h]; exact hsm
  · rcases List.mem_or_eq_of_mem_set hf with h | h
    · exact hl.blen f h
    · rw [h]; show ((x.body ++ [newS]).length + 1) * 192 ≤ 140737488355328; rw [List.length_append, List.length_singleton]; omega
/-- A row of functions, one function's statements laid anew. -/
theorem row_set {w W1 : World} {ag : Addr} {csA : Array Value} {t : TypeId} {l : List FF} {k : Nat} {y : FF} {u : Value} (hz : ag = ⟨ag.block, 0, none⟩) (hb : W1.heap[ag.block]? = some (.cells csA t (0, 0))) (hC : (kRead w kFF).C W1 (some ag) l.length l) (hk : k < l.length)
    (hB : Below w.heap.size w (W1.setCell ⟨(ag.add (k * 6)).block, (ag.add (k * 6)).off + 5, none⟩ u))
    (hcs : ∀ cs, kFF.K w (l.getD k zFF) cs → (∀ j v, cs[j]? = some v → W1.cell? (ag.add (k * 6 + j)) = some v) → kFF.K (W1.setCell ⟨(ag.add (k * 6)).block, (ag.add (k * 6)).off + 5, none⟩ u) y (cs.set 5 u)) :
    kFF.C (W1.setCell ⟨(ag.add (k * 6)).block, (ag.add (k * 6)).off + 5, none⟩ u) (some ag) l.length (l.set k y) := by
  refine ⟨by simp, hC.2.1, fun hn => ?_⟩
  obtain ⟨ad, e, hh⟩ := hC.2.2 hn
  injection e with e
  subst e
  refine ⟨ag, rfl, fun j q hj => ?_⟩
  have hjl : j < l.length := by have := (List.getElem?_eq_some_iff.1 hj).1; simpa using this
  have hcell : ∀ i, (W1.setCell ⟨(ag.add (k * 6)).block, (ag.add (k * 6)).off + 5, none⟩ u).cell? (ag.add i) = if i = k * 6 + 5 then (if i < csA.size then some u else none) else W1.cell? (ag.add i) := by
    intro i
    rw [add_out hz, add_zeroed hz, blk_cell (blk_put hb (k * 6 + 5) u rfl), Array.getElem?_setIfInBounds]
    by_cases hi : i = k * 6 + 5
    · subst hi; simp
    · rw [if_neg (fun h => hi h.symm), if_neg hi, blk_cell hb]
  by_cases hjk : j = k
  · subst hjk
    rw [List.getElem?_set_self hjl] at hj
    injection hj with hj
    subst hj
    obtain ⟨cs, k1, k2, k3⟩ := hh j _ (List.getElem?_eq_getElem hjl)
    have k1' : cs.length = 6 := k1
    have hgd : l.getD j zFF = l[j] := by rw [List.getD_eq_getElem?_getD, List.getElem?_eq_getElem hjl]; rfl
    refine ⟨cs.set 5 u, by rw [List.length_set]; exact k1, hcs cs (by rw [hgd]; exact k2) (fun i v hv => k3 i v hv), fun i v hv => ?_⟩
    show (W1.setCell _ u).cell? (ag.add (j * 6 + i)) = some v
    rw [hcell]
    by_cases hi : i = 5
    · subst hi
      rw [List.getElem?_set_self (by omega)] at hv
      rw [if_pos rfl]
      obtain ⟨v5, h5⟩ : ∃ v5, cs[5]? = some v5 := ⟨_, List.getElem?_eq_getElem (by omega)⟩
      have h6 := k3 5 v5 h5
      rw [add_zeroed hz, blk_cell hb] at h6
      have h7 : j * 6 + 5 < csA.size := (Array.getElem?_eq_some_iff.1 h6).1
      rw [if_pos h7]; exact hv
    · rw [if_neg (by omega)]
      rw [List.getElem?_set_ne (fun h => hi h.symm)] at hv
      exact k3 i v hv
  · rw [List.getElem?_set_ne (fun h => hjk h.symm)] at hj
    obtain ⟨cs, k1, k2, k3⟩ := hh j q hj
    have k1' : cs.length = 6 := k1
    refine ⟨cs, k1, kFF.K_below hB k2, fun i v hv => ?_⟩
    show (W1.setCell _ u).cell? (ag.add (j * 6 + i)) = some v
    have hi : i < 6 := by have := (List.getElem?_eq_some_iff.1 hv).1; omega
    rw [hcell, if_neg (by omega)]
    exact k3 i v hv
end Go.Proofs.YticndoihkfbpoaaGreatDoor
