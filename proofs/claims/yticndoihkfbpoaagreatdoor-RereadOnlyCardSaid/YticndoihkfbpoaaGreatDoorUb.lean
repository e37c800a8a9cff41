/- Kinds of a flat program's statements, arms, functions: nested in themselves by way of a row of arms. -/
import Derived.Test.YticndoihkfbpoaaGreatDoorUa
namespace Go.Proofs.YticndoihkfbpoaaGreatDoor
open Go Go.RowKit Go.Lib Go.Proofs.YticndoihkfbpoaaGreatDoorW.PrintWords Go.Proofs.YticndoihkfbpoaaGreatDoor.PScope
set_option maxRecDepth 100000
set_option linter.unusedSimpArgs false
set_option linter.unusedVariables false
section
variable {α : Type} {F : Kd α → Kd α} {sz : Nat} {E : List Nat} {hs : ∀ n, (Kd.upto F sz E n).sz = sz} {hE : ∀ n q, q ∈ (Kd.upto F sz E n).E → q ∈ E}
structure ContK {β : Type} (F : Kd α → Kd α) (sz : Nat) (E : List Nat) (hs : ∀ n, (Kd.upto F sz E n).sz = sz) (hE : ∀ n q, q ∈ (Kd.upto F sz E n).E → q ∈ E) (G : Kd α → Kd β) : Prop where
 K : ∀ w x cs, (G (Kd.fix F sz E hs hE)).K w x cs → ∃ n, (G (Kd.upto F sz E n)).K w x cs
 M : ∀ w base ok x cs, (G (Kd.fix F sz E hs hE)).M w base ok x cs → ∃ n, (G (Kd.upto F sz E n)).M w base ok x cs
theorem cont_const {β : Type} (k : Kd β) : ContK F sz E hs hE (fun _ => k) := ⟨fun _ _ _ h => ⟨0, h⟩, fun _ _ _ _ _ h => ⟨0, h⟩⟩
theorem cont_id : ContK F sz E hs hE (fun d => d) := ⟨fun _ _ _ h => h, fun _ _ _ _ _ h => h⟩
theorem cont_iso {β γ : Type} {G : Kd α → Kd β} (f : γ → β) (h : ContK F sz E hs hE G) : ContK F sz E hs hE (fun d => Kd.iso (G d) f) := ⟨fun w x cs => h.K w (f x) cs, fun w base ok x cs => h.M w base ok (f x) cs⟩
theorem mono_K_le {β : Type} {G : Kd α → Kd β} (hm : Kd.Mono F) (hs : ∀ n, (Kd.upto F sz E n).sz = sz) (hG : Kd.Mono G) {n m : Nat} (hnm : n ≤ m) {w : World} {x : β} {cs : List Value} (h : (G (Kd.upto F sz E n)).K w x cs) : (G (Kd.upto F sz E m)).K w x cs :=
 hG.K _ _ (by rw [hs n, hs m]) (fun _ _ _ hk => Kd.upto_K_le hm hs hnm hk) _ _ _ h
theorem mono_M_le {β : Type} {G : Kd α → Kd β} (hm : Kd.Mono F) (hs : ∀ n, (Kd.upto F sz E n).sz = sz) (hG : Kd.Mono G) {n m : Nat} (hnm : n ≤ m) {w : World} {base : Nat} {ok : Nat → Prop} {x : β} {cs : List Value} (h : (G (Kd.upto F sz E n)).M w base ok x cs) : (G (Kd.upto F sz E m)).M w base ok x cs :=
 hG.M _ _ (by rw [hs n, hs m]) (fun _ _ _ _ _ hk => Kd.upto_M_le hm hs hnm hk) _ _ _ _ _ h
theorem cont_pair {β γ : Type} {G : Kd α → Kd β} {H : Kd α → Kd γ} (hm : Kd.Mono F) (mG : Kd.Mono G) (mH : Kd.Mono H) (hG : ContK F sz E hs hE G) (hH : ContK F sz E hs hE H) : ContK F sz E hs hE (fun d => Kd.pair (G d) (H d)) := by
 constructor
 ·rintro w x cs ⟨c0, c1, rfl, h0, h1⟩
  obtain ⟨n, h0⟩ := hG.K _ _ _ h0
  obtain ⟨m, h1⟩ := hH.K _ _ _ h1
  exact ⟨max n m, c0, c1, rfl, mono_K_le hm hs mG (Nat.le_max_left _ _) h0, mono_K_le hm hs mH (Nat.le_max_right _ _) h1⟩
 ·rintro w base ok x cs ⟨c0, c1, rfl, h0, h1⟩
  obtain ⟨n, h0⟩ := hG.M _ _ _ _ _ h0
  obtain ⟨m, h1⟩ := hH.M _ _ _ _ _ h1
  exact ⟨max n m, c0, c1, rfl, mono_M_le hm hs mG (Nat.le_max_left _ _) h0, mono_M_le hm hs mH (Nat.le_max_right _ _) h1⟩
theorem cont_slice {β : Type} {G : Kd α → Kd β} (hm : Kd.Mono F) (e : Nat) (mG : Kd.Mono G) (hG : ContK F sz E hs hE G) : ContK F sz E hs hE (fun d => Kd.slice e (G d)) := by
 have hsz : ∀ n, (G (Kd.upto F sz E n)).sz = (G (Kd.fix F sz E hs hE)).sz := fun n => mG.sz _ _ (hs n)
 constructor
 ·rintro w xs cs ⟨A, c, rfl, hl, hC⟩
  rcases Nat.eq_zero_or_pos xs.length with hz | hpos
  ·exact ⟨0, A, c, rfl, hl, hC.1, hC.2.1, fun hp => absurd hp (by omega)⟩
  ·obtain ⟨ad, e', hc⟩ := hC.2.2 hpos
   obtain ⟨N, hN⟩ := Kd.bounded (P := fun n j => ∀ p, xs[j]? = some p → ∃ c, c.length = (G (Kd.fix F sz E hs hE)).sz ∧ (G (Kd.upto F sz E n)).K w p c ∧ ∀ i u, c[i]? = some u → w.cell? (ad.add (j * (G (Kd.fix F sz E hs hE)).sz + i)) = some u)
    (fun n n' j hnm hp p hj => by
     obtain ⟨c, h1, h2, h3⟩ := hp p hj
     exact ⟨c, h1, mono_K_le hm hs mG hnm h2, h3⟩) xs.length
    (fun j hj => by
     obtain ⟨c, h1, h2, h3⟩ := hc j _ (List.getElem?_eq_getElem hj)
     obtain ⟨n, h2⟩ := hG.K _ _ _ h2
     refine ⟨n, fun p hp => ?_⟩
     rw [List.getElem?_eq_getElem hj] at hp
     injection hp with hp
     rw [← hp]
     exact ⟨c, h1, h2, h3⟩)
   refine ⟨N, A, c, rfl, hl, hC.1, hC.2.1, fun _ => ⟨ad, e', fun j p hj => ?_⟩⟩
   rw [hsz N]
   exact hN j (List.getElem?_eq_some_iff.1 hj).1 p hj
 ·rintro w base ok xs cs ⟨v, rfl, h0, inner, ho, hr⟩
  obtain ⟨N, hN⟩ := Kd.reps_bounded (R := fun n p c => (G (Kd.upto F sz E n)).M w base (fun k => ok k ∧ some k ≠ v.ownBlock) p c) (fun n m p c hnm hp => mono_M_le hm hs mG hnm hp) (hr.imp_ (fun p c hp => hG.M _ _ _ _ _ hp))
  refine ⟨N, v, rfl, h0, inner, ?_, ?_⟩
  ·rw [hsz N]; exact ho
  ·rw [hsz N]; exact hN
theorem fix_unK (hm : Kd.Mono F) (hc : ContK F sz E hs hE F) {w : World} {x : α} {cs : List Value} : (Kd.fix F sz E hs hE).K w x cs ↔ (F (Kd.fix F sz E hs hE)).K w x cs := by
 constructor
 ·rintro ⟨n, h⟩
  cases n with
  | zero => exact h.elim
  | succ n => exact hm.K (Kd.upto F sz E n) (Kd.fix F sz E hs hE) (hs n) (fun _ _ _ hk => ⟨n, hk⟩) _ _ _ h
 ·intro h
  obtain ⟨n, h⟩ := hc.K _ _ _ h
  exact ⟨n + 1, h⟩
theorem fix_unM (hm : Kd.Mono F) (hc : ContK F sz E hs hE F) {w : World} {base : Nat} {ok : Nat → Prop} {x : α} {cs : List Value} : (Kd.fix F sz E hs hE).M w base ok x cs ↔ (F (Kd.fix F sz E hs hE)).M w base ok x cs := by
 constructor
 ·rintro ⟨n, h⟩
  cases n with
  | zero => exact h.elim
  | succ n => exact hm.M (Kd.upto F sz E n) (Kd.fix F sz E hs hE) (hs n) (fun _ _ _ _ _ hk => ⟨n, hk⟩) _ _ _ _ _ h
 ·intro h
  obtain ⟨n, h⟩ := hc.M _ _ _ _ _ h
  exact ⟨n + 1, h⟩
end
abbrev kE : Kd S38 := k38
def GA (d : Kd FS) : Kd (Int × List FS) := Kd.pair (Kd.int .i64) (Kd.slice 41 d)
def FFS (d : Kd FS) : Kd FS := Kd.iso (Kd.pair (Kd.int .i64) (Kd.pair Kd.string (Kd.pair (Kd.int .i64) (Kd.pair (Kd.int .i64) (Kd.pair (Kd.slice 9 Kd.string) (Kd.pair kE (Kd.pair (Kd.slice 38 kE) (Kd.slice 147 (GA d))))))))) (fun x : FS => (x.op, x.name, x.pos, x.fn, x.names, x.e, x.args, x.arms))
theorem monoGA : Kd.Mono GA := Kd.mono_pair (Kd.mono_const _) (Kd.mono_slice _ Kd.mono_id)
theorem monoFS : Kd.Mono FFS := Kd.mono_iso _ (Kd.mono_pair (Kd.mono_const _) (Kd.mono_pair (Kd.mono_const _) (Kd.mono_pair (Kd.mono_const _) (Kd.mono_pair (Kd.mono_const _) (Kd.mono_pair (Kd.mono_const _) (Kd.mono_pair (Kd.mono_const _) (Kd.mono_pair (Kd.mono_const _) (Kd.mono_slice _ monoGA))))))))
abbrev EFS : List Nat := [9, 38, 147, 41]
theorem subGA : Kd.Sub GA EFS := Kd.sub_pair (Kd.sub_const _ (by decide)) (Kd.sub_slice _ (by decide) Kd.sub_id)
theorem subFS : Kd.Sub FFS EFS := Kd.sub_iso _ (Kd.sub_pair (Kd.sub_const _ (by decide)) (Kd.sub_pair (Kd.sub_const _ (by decide)) (Kd.sub_pair (Kd.sub_const _ (by decide)) (Kd.sub_pair (Kd.sub_const _ (by decide)) (Kd.sub_pair (Kd.sub_const _ (by decide)) (Kd.sub_pair (Kd.sub_const _ (by decide)) (Kd.sub_pair (Kd.sub_const _ (by decide)) (Kd.sub_slice _ (by decide) subGA))))))))
theorem szFS : ∀ n, (Kd.upto FFS 12 EFS n).sz = 12 := Kd.upto_sz (fun _ => rfl)
def kFS : Kd FS := Kd.fix FFS 12 EFS szFS (Kd.upto_E subFS)
def kFA : Kd (Int × List FS) := GA kFS
theorem contGA : ContK FFS 12 EFS szFS (Kd.upto_E subFS) GA := cont_pair monoFS (Kd.mono_const _) (Kd.mono_slice _ Kd.mono_id) (cont_const _) (cont_slice monoFS _ Kd.mono_id cont_id)
theorem contFS : ContK FFS 12 EFS szFS (Kd.upto_E subFS) FFS := by
 have h1 := cont_slice (hs := szFS) (hE := Kd.upto_E subFS) monoFS 147 monoGA contGA
 have m1 := Kd.mono_slice 147 monoGA
 have h2 := cont_pair (hs := szFS) (hE := Kd.upto_E subFS) monoFS (Kd.mono_const (Kd.slice 38 kE)) m1 (cont_const _) h1
 have m2 := Kd.mono_pair (Kd.mono_const (Kd.slice 38 kE)) m1
 have h3 := cont_pair (hs := szFS) (hE := Kd.upto_E subFS) monoFS (Kd.mono_const kE) m2 (cont_const _) h2
 have m3 := Kd.mono_pair (Kd.mono_const kE) m2
 have h4 := cont_pair (hs := szFS) (hE := Kd.upto_E subFS) monoFS (Kd.mono_const (Kd.slice 9 Kd.string)) m3 (cont_const _) h3
 have m4 := Kd.mono_pair (Kd.mono_const (Kd.slice 9 Kd.string)) m3
 have h5 := cont_pair (hs := szFS) (hE := Kd.upto_E subFS) monoFS (Kd.mono_const (Kd.int .i64)) m4 (cont_const _) h4
 have m5 := Kd.mono_pair (Kd.mono_const (Kd.int .i64)) m4
 have h6 := cont_pair (hs := szFS) (hE := Kd.upto_E subFS) monoFS (Kd.mono_const (Kd.int .i64)) m5 (cont_const _) h5
 have m6 := Kd.mono_pair (Kd.mono_const (Kd.int .i64)) m5
 have h7 := cont_pair (hs := szFS) (hE := Kd.upto_E subFS) monoFS (Kd.mono_const Kd.string) m6 (cont_const _) h6
 have m7 := Kd.mono_pair (Kd.mono_const Kd.string) m6
 have h8 := cont_pair (hs := szFS) (hE := Kd.upto_E subFS) monoFS (Kd.mono_const (Kd.int .i64)) m7 (cont_const _) h7
 exact cont_iso _ h8
theorem kFS_unK {w : World} {x : FS} {cs : List Value} : kFS.K w x cs ↔ (FFS kFS).K w x cs := fix_unK monoFS contFS
theorem kFS_unM {w : World} {base : Nat} {ok : Nat → Prop} {x : FS} {cs : List Value} : kFS.M w base ok x cs ↔ (FFS kFS).M w base ok x cs := fix_unM monoFS contFS
def fsCells (x : FS) (v4 : Value) (ce : List Value) (v6 v7 : Value) : List Value := .int .i64 x.op :: .string x.name :: .int .i64 x.pos :: .int .i64 x.fn :: v4 :: (ce ++ [v6, v7])
theorem kFS_openM {w : World} {base : Nat} {ok : Nat → Prop} {x : FS} {cs : List Value} (h : kFS.M w base ok x cs) :
  ∃ v4 ce v6 v7, cs = fsCells x v4 ce v6 v7 ∧ Kd.string.R 9 w base ok v4 x.names ∧ kE.M w base ok x.e ce ∧ kE.R 38 w base ok v6 x.args ∧ kFA.R 147 w base ok v7 x.arms := by
 obtain ⟨_, _, rfl, rfl, ⟨_, _, rfl, rfl, ⟨_, _, rfl, rfl, ⟨_, _, rfl, rfl, ⟨_, _, rfl, ⟨v4, rfl, g4⟩, ⟨ce, _, rfl, g5, ⟨_, _, rfl, ⟨v6, rfl, g6⟩, ⟨v7, rfl, g7⟩⟩⟩⟩⟩⟩⟩⟩ := kFS_unM.1 h
 exact ⟨v4, ce, v6, v7, rfl, g4, g5, g6, g7⟩
theorem kFS_mkM (w : World) (base : Nat) (ok : Nat → Prop) (x : FS) {v4 : Value} {ce : List Value} {v6 v7 : Value} (g4 : Kd.string.R 9 w base ok v4 x.names) (g5 : kE.M w base ok x.e ce) (g6 : kE.R 38 w base ok v6 x.args) (g7 : kFA.R 147 w base ok v7 x.arms) : kFS.M w base ok x (fsCells x v4 ce v6 v7) :=
 kFS_unM.2 ⟨[.int .i64 x.op], _, rfl, rfl, ⟨[.string x.name], _, rfl, rfl, ⟨[.int .i64 x.pos], _, rfl, rfl, ⟨[.int .i64 x.fn], _, rfl, rfl, ⟨[v4], _, rfl, ⟨v4, rfl, g4⟩, ⟨ce, _, rfl, g5, ⟨[v6], _, rfl, ⟨v6, rfl, g6⟩, ⟨v7, rfl, g7⟩⟩⟩⟩⟩⟩⟩⟩
theorem kFS_open {w : World} {x : FS} {cs : List Value} (h : kFS.K w x cs) :
  ∃ A4 c4 ce A6 c6 A7 c7, cs = fsCells x (.slice A4 x.names.length c4) ce (.slice A6 x.args.length c6) (.slice A7 x.arms.length c7) ∧ x.names.length ≤ c4 ∧ Kd.string.C w A4 x.names.length x.names ∧ kE.K w x.e ce ∧ x.args.length ≤ c6 ∧ kE.C w A6 x.args.length x.args ∧ x.arms.length ≤ c7 ∧ kFA.C w A7 x.arms.length x.arms := by
 obtain ⟨_, _, rfl, rfl, ⟨_, _, rfl, rfl, ⟨_, _, rfl, rfl, ⟨_, _, rfl, rfl, ⟨_, _, rfl, ⟨A4, c4, rfl, l4, g4⟩, ⟨ce, _, rfl, g5, ⟨_, _, rfl, ⟨A6, c6, rfl, l6, g6⟩, ⟨A7, c7, rfl, l7, g7⟩⟩⟩⟩⟩⟩⟩⟩ := kFS_unK.1 h
 exact ⟨A4, c4, ce, A6, c6, A7, c7, rfl, l4, g4, g5, l6, g6, l7, g7⟩
theorem kFA_mkM (w : World) (base : Nat) (ok : Nat → Prop) (x : Int × List FS) {v1 : Value} (g1 : kFS.R 41 w base ok v1 x.2) : kFA.M w base ok x [.int .i64 x.1, v1] := ⟨[.int .i64 x.1], [v1], rfl, rfl, ⟨v1, rfl, g1⟩⟩
theorem kFA_open {w : World} {x : Int × List FS} {cs : List Value} (h : kFA.K w x cs) : ∃ A1 c1, cs = [.int .i64 x.1, .slice A1 x.2.length c1] ∧ x.2.length ≤ c1 ∧ kFS.C w A1 x.2.length x.2 := by
 obtain ⟨_, _, rfl, rfl, ⟨A1, c1, rfl, l1, g1⟩⟩ := h
 exact ⟨A1, c1, rfl, l1, g1⟩
def kPt : Kd S103 := k103
def kFF : Kd FF := Kd.iso (Kd.pair (Kd.slice 9 Kd.string) (Kd.pair (Kd.slice 9 Kd.string) (Kd.pair (Kd.int .i64) (Kd.pair (Kd.slice 3 (Kd.int .i64)) (Kd.pair (Kd.slice 103 kPt) (Kd.slice 41 kFS)))))) (fun x : FF => (x.params, x.results, x.cells, x.flags, x.parts, x.body))
theorem kFF_openM {w : World} {base : Nat} {ok : Nat → Prop} {x : FF} {cs : List Value} (h : kFF.M w base ok x cs) : ∃ v0 v1 v3 v4 v5, cs = [v0, v1, .int .i64 x.cells, v3, v4, v5] ∧ Kd.string.R 9 w base ok v0 x.params ∧ Kd.string.R 9 w base ok v1 x.results ∧ (Kd.int .i64).R 3 w base ok v3 x.flags ∧ kPt.R 103 w base ok v4 x.parts ∧ kFS.R 41 w base ok v5 x.body := by
 obtain ⟨_, _, rfl, ⟨v0, rfl, g0⟩, ⟨_, _, rfl, ⟨v1, rfl, g1⟩, ⟨_, _, rfl, rfl, ⟨_, _, rfl, ⟨v3, rfl, g3⟩, ⟨_, _, rfl, ⟨v4, rfl, g4⟩, ⟨v5, rfl, g5⟩⟩⟩⟩⟩⟩ := h
 exact ⟨v0, v1, v3, v4, v5, rfl, g0, g1, g3, g4, g5⟩
theorem kFF_mkM (w : World) (base : Nat) (ok : Nat → Prop) (x : FF) {v0 v1 v3 v4 v5 : Value} (g0 : Kd.string.R 9 w base ok v0 x.params) (g1 : Kd.string.R 9 w base ok v1 x.results) (g3 : (Kd.int .i64).R 3 w base ok v3 x.flags) (g4 : kPt.R 103 w base ok v4 x.parts) (g5 : kFS.R 41 w base ok v5 x.body) : kFF.M w base ok x [v0, v1, .int .i64 x.cells, v3, v4, v5] :=
 ⟨[v0], _, rfl, ⟨v0, rfl, g0⟩, ⟨[v1], _, rfl, ⟨v1, rfl, g1⟩, ⟨[.int .i64 x.cells], _, rfl, rfl, ⟨[v3], _, rfl, ⟨v3, rfl, g3⟩, ⟨[v4], _, rfl, ⟨v4, rfl, g4⟩, ⟨v5, rfl, g5⟩⟩⟩⟩⟩⟩
end Go.Proofs.YticndoihkfbpoaaGreatDoor
