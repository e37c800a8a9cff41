/- Maps keyed by strings, of the call's own: what a block says, key by key; look-ups and stores as laws of the walk. -/
import Derived.Maps.OwnOps
import Derived.Test.YticndoihkfbpoaaGreatDoorBase
namespace Go.Proofs.YticndoihkfbpoaaGreatDoor
open Go Go.RowKit Go.Lib Go.ChangeMaps Go.MapKept Go.Proofs.YticndoihkfbpoaaGreatDoorW.PrintWords
set_option maxRecDepth 100000
set_option linter.unusedSimpArgs false
set_option linter.unusedVariables false
section
variable {P : Program} {ops : Array Oper} {rest : List Oper} {o : Oper} {a : Act} {Q : Exit → Act → World → Prop} {w : World}
theorem store_whole (hgd : o.guard = none) (hN : o.dst = none) (t : TypeId) (p v : Operand) (ho : o.op = .store t p v) (g : Nat) (cur : Array Value) (e : TypeId) (hp : a.eval p = .pointer (some ⟨g, 0, none⟩))
  (hh : w.heap[g]? = some (.cells cur e (0, 0))) (cs : Array Value) (hv : a.eval v = .agg cs) (hs : (P.info? t).map (·.size) = some cs.size) (hc : cs.size = cur.size) (h1 : ∀ q ∈ cs.toList, q.oneCell' = true)
  (h : ∀ w', w'.heap[g]? = some (.cells cs e (0, 0)) → w.grownBy w' (some g) → wpList P ops Q rest a w') : wpList P ops Q (o :: rest) a w := by
 have hst := run_storeCells_at P g 0 e cs.toList 0 cur w hh (by simp [hc]) h1
 have hrow : (cur.toList.take (0 + 0) ++ cs.toList ++ cur.toList.drop (0 + 0 + cs.toList.length)).toArray = cs := by
  rw [List.drop_of_length_le (by simp [hc]), List.append_nil]; simp
 rw [hrow] at hst
 obtain ⟨i, hi, hsz⟩ := Option.map_eq_some_iff.1 hs
 have hrun : (Instr.storeAt t (.pointer (some ⟨g, 0, none⟩)) (.agg cs)).run P w = .ok () (w.setRow g cs) := by
  simp [Instr.storeAt, Instr.sureAddr, storeVar, sizeOf, typeInfo, hi, hsz, Value.cells, hst]
 have hg : w.grownBy (w.setRow g cs) (some g) := ⟨rfl, rfl, rfl, by simp [World.setRow], fun k hk hne => setRow_other w g k cs (fun e => hne (by rw [e]))⟩
 have hb := setRow_heap w g cur cs e (0, 0) hh
 generalize w.setRow g cs = w1 at hrun hg hb
 refine wpList_plain hgd fun K hK => ?_
 unfold Oper.wp
 simp only [execOp, ho, hp, hv]
 have hK' := hK a w1 (h w1 hb hg)
 have hN' : a.put o.dst undef = a := by rw [hN]; rfl
 simp only [Sem.run_bind, hrun, Result.andThen, Sem.run_pure]
 show K (a.put o.dst undef) w1
 rw [hN']; exact hK'
end
end Go.Proofs.YticndoihkfbpoaaGreatDoor
