/- Plain laws of scope's answer: of a program without a fault the first nodes alone have none. -/
import Derived.Test.YtcekbkbhaceilaaSn
namespace Go.Proofs.Ytcekbkbhaceilaa
open Go Go.RowKit Go.Lib Go.Proofs.YtcekbkbhaceilaaW.PrintWords Go.Proofs.Ytcekbkbhaceilaa.PScope
set_option maxRecDepth 100000
set_option linter.unusedSimpArgs false
set_option linter.unusedVariables false

section
variable {m : Mp} {V fs : SMap} {es : List S72} {ns ns' : List S36}
theorem callB_congr (h : ∀ s v, m.nodes s = some v → rd_T36 ns v = rd_T36 ns' v) (e : S41) (outs : Int) : callB m fs ns e outs = callB m fs ns' e outs := by
  have ha : argOk m fs ns = argOk m fs ns' := by
    funext c
    unfold argOk
    cases hc : m.nodes c with
    | none => rfl
    | some v => simp only []; rw [h c v hc]
  unfold callB
  split
  · rfl
  · cases hc : m.nodes e.f1 with
    | none => rfl
    | some v => simp only []; rw [h _ v hc, ha]
theorem topU_congr (h : ∀ s v, m.nodes s = some v → rd_T36 ns v = rd_T36 ns' v) (x : S41) (i : Bool) (o : Int) : topU m V fs es ns x i o = topU m V fs es ns' x i o := by
  unfold topU; rw [callB_congr h]
mutual
theorem usesB_congr (h : ∀ s v, m.nodes s = some v → rd_T36 ns v = rd_T36 ns' v) : ∀ (x : S41) (i : Bool) (o : Int), usesB m V fs es ns x i o = usesB m V fs es ns' x i o
  | ⟨a, b, c, d, k⟩, i, o => by rw [usesB, usesB, topU_congr h, usesL_congr h k]
theorem usesL_congr (h : ∀ s v, m.nodes s = some v → rd_T36 ns v = rd_T36 ns' v) : ∀ (l : List S41) (i : Bool) (n : Int), usesL m V fs es ns l i n = usesL m V fs es ns' l i n
  | [], _, _ => rfl
  | k :: r, i, n => by rw [usesL, usesL, usesB_congr h k, usesL_congr h r]
end
theorem nodeR_congr (h : ∀ s v, m.nodes s = some v → rd_T36 ns v = rd_T36 ns' v) (n : S36) : nodeR es ns m n = nodeR es ns' m n := by
  unfold nodeR
  split
  · have hn := runDefs_nodes n.f4 m (mkM 0 n.f2) 0
    generalize runDefs m (mkM 0 n.f2) n.f4 0 = R at hn
    obtain ⟨q, m', V'⟩ := R
    cases q with
    | some b => rfl
    | none =>
      have hu : usesB m' V' (mkM 1 n.f1) es ns = usesB m' V' (mkM 1 n.f1) es ns' := by
        funext x i o
        exact usesB_congr (fun s v hs => h s v (by rw [← hn]; exact hs)) x i o
      unfold nodeT
      simp only [hu]
  · rfl
end
def NodesLt (m : Mp) (b : Nat) : Prop := ∀ s v, m.nodes s = some v → 0 ≤ v ∧ v < b
theorem nodesLt_more {m : Mp} {b : Nat} (h : NodesLt m b) (n : S36) : NodesLt (nodeM m n b) (b + 1) := by
  intro s v hs
  unfold nodeM mupd at hs
  simp only at hs
  split at hs
  · have := Option.some.inj hs; omega
  · have := h s v hs; omega
theorem nodesLt_node {es : List S72} {ns : List S36} {m : Mp} {b : Nat} (h : NodesLt m b) (n : S36) : NodesLt (nodeR es ns m n).2.2 b := by
  intro s v hs; rw [nodeR_nodes] at hs; exact h s v hs
/-- The world behind some nodes; none: one of them is wrong. -/
def nodesM (es : List S72) (ns : List S36) : Mp → List S36 → Nat → Option Mp
  | m, [], _ => some m
  | m, n :: r, k => if (nodeR es ns m n).2.1 = true then none else nodesM es ns (nodeM (nodeR es ns m n).2.2 n k) r (k + 1)
theorem runNodes_zero {es : List S72} {ns : List S36} (l : List S36) : ∀ (m : Mp) (b : Nat), (nodesM es ns m l b).isSome = true → runNodes es ns m l b = (0, 0, 0) := by
  induction l with
  | nil => intro m b _; rfl
  | cons n r ih =>
    intro m b h
    rw [nodesM] at h
    rw [runNodes]
    split
    · rename_i hc; rw [if_pos hc] at h; simp at h
    · rename_i hc; rw [if_neg hc] at h; exact ih _ _ h
theorem runNodes_some {es : List S72} {ns : List S36} (l : List S36) : ∀ (m : Mp) (b : Nat), (runNodes es ns m l b).1 = 0 → (nodesM es ns m l b).isSome = true := by
  induction l with
  | nil => intro m b _; rfl
  | cons n r ih =>
    intro m b h
    rw [runNodes] at h
    rw [nodesM]
    split
    · rename_i hc; rw [if_pos hc] at h; simp at h
    · rename_i hc; rw [if_neg hc] at h; exact ih _ _ h
theorem nodesM_append {es : List S72} {ns : List S36} (l r : List S36) : ∀ (m : Mp) (b : Nat), nodesM es ns m (l ++ r) b = (nodesM es ns m l b).bind (fun m' => nodesM es ns m' r (b + l.length)) := by
  induction l with
  | nil => intro m b; rfl
  | cons n t ih =>
    intro m b
    rw [List.cons_append, nodesM, nodesM]
    split
    · rfl
    · rw [ih, List.length_cons, show b + 1 + t.length = b + (t.length + 1) by omega]
theorem nodesM_congr {es : List S72} {ns ns' : List S36} (K : Nat) (hr : ∀ v : Int, 0 ≤ v → v < K → rd_T36 ns v = rd_T36 ns' v) (l : List S36) : ∀ (m : Mp) (b : Nat), NodesLt m b → b + l.length ≤ K + 1 → nodesM es ns m l b = nodesM es ns' m l b := by
  induction l with
  | nil => intro m b _ _; rfl
  | cons n t ih =>
    intro m b hm hb
    rw [List.length_cons] at hb
    have he : nodeR es ns m n = nodeR es ns' m n := nodeR_congr (fun s v hs => by have := hm s v hs; exact hr v this.1 (by omega)) n
    rw [nodesM, nodesM, he]
    split
    · rfl
    · exact ih _ _ (nodesLt_more (nodesLt_node hm n) n) (by omega)
theorem nodesM_lt {es : List S72} {ns : List S36} (l : List S36) : ∀ (m m' : Mp) (b : Nat), NodesLt m b → nodesM es ns m l b = some m' → NodesLt m' (b + l.length) := by
  induction l with
  | nil => intro m m' b hm h; rw [nodesM] at h; cases h; exact hm
  | cons n t ih =>
    intro m m' b hm h
    rw [nodesM] at h
    split at h
    · cases h
    · have := ih _ _ _ (nodesLt_more (nodesLt_node hm n) n) h
      rw [List.length_cons, show b + (t.length + 1) = b + 1 + t.length by omega]; exact this
theorem rd_take (ns : List S36) (k : Nat) (v : Int) (h0 : 0 ≤ v) (h : v < k) : rd_T36 (ns.take k) v = rd_T36 ns v := by
  unfold rd_T36
  have hk : v.toNat < k := by omega
  simp [List.getD_eq_getElem?_getD, List.getElem?_take, hk]
theorem runEnums_nodes (l : List S72) : ∀ (m : Mp) (b : Nat), (runEnums m l b).2.nodes = m.nodes := by
  induction l with
  | nil => intro m b; rfl
  | cons t r ih => intro m b; rw [runEnums]; split; exact (ih _ _).trans rfl; rfl
theorem all_take' {α : Type} {l : List α} {q : α → Bool} (h : l.all q = true) (k : Nat) : (l.take k).all q = true :=
  List.all_eq_true.2 (fun x hx => List.all_eq_true.1 h x (List.mem_of_mem_take hx))
/-- What there is of a program without a fault. -/
theorem checkR_none {made : Bool} {es : List S72} {ns : List S36} (h : (checkR made es ns).1 = 0) :
    rightP es ns made = 0 ∧ ∃ m mf, runEnums m0 es 0 = (none, m) ∧ NodesLt m 0 ∧ nodesM es ns m ns 0 = some mf := by
  unfold checkR at h
  by_cases hr : rightP es ns made = 0
  · rw [if_pos hr] at h
    refine ⟨hr, ?_⟩
    unfold scopeE at h
    have hn := runEnums_nodes es m0 0
    generalize runEnums m0 es 0 = R at h hn
    obtain ⟨q, m⟩ := R
    cases q with
    | some i => simp at h
    | none =>
      have hs := runNodes_some ns m 0 h
      obtain ⟨mf, hmf⟩ := Option.isSome_iff_exists.1 hs
      exact ⟨m, mf, rfl, (fun s v hs => by have hn' : m.nodes = m0.nodes := hn; rw [hn'] at hs; cases hs), hmf⟩
  · rw [if_neg hr] at h; exact absurd h hr
theorem checkR_ok {made : Bool} {es : List S72} {ns : List S36} (hr : rightP es ns made = 0) {m mf : Mp} (he : runEnums m0 es 0 = (none, m)) (hn : nodesM es ns m ns 0 = some mf) : checkR made es ns = (0, 0, 0) := by
  unfold checkR scopeE
  rw [if_pos hr, he]
  exact runNodes_zero ns m 0 (by rw [hn]; rfl)
theorem rightP_parts {made : Bool} {es : List S72} {ns : List S36} (h : rightP es ns made = 0) : programB made es ns = true ∧ ns.all fitsB = true := by
  unfold rightP at h
  split at h
  · rename_i hp
    split at h
    · rename_i hf; exact ⟨hp, hf⟩
    · omega
  · omega
theorem rightP_of {made : Bool} {es : List S72} {ns : List S36} (h1 : programB made es ns = true) (h2 : ns.all fitsB = true) : rightP es ns made = 0 := by
  unfold rightP; rw [if_pos h1, if_pos h2]
theorem programB_iff (made : Bool) (es : List S72) (ns : List S36) : programB made es ns = true ↔ (es.length : Int) ≤ mostI made ∧ 0 < ns.length ∧ ns.length ≤ 16 ∧ es.all (enumB made) = true ∧ ns.all (nodeB made) = true := by
  unfold programB
  rw [← all_any_not]
  simp only [Bool.and_eq_true, decide_eq_true_eq, Bool.not_eq_true', beq_eq_false_iff_ne]
  constructor
  · rintro ⟨a, b, c, d, e⟩; exact ⟨a, by omega, by omega, d, e⟩
  · rintro ⟨a, b, c, d, e⟩; exact ⟨a, by omega, by omega, d, e⟩
theorem rightP_take {made : Bool} {es : List S72} {ns : List S36} (h : rightP es ns made = 0) (k : Nat) (hk : 0 < k) : rightP es (ns.take k) made = 0 := by
  obtain ⟨h1, h2⟩ := rightP_parts h
  obtain ⟨a, b, c, d, e⟩ := (programB_iff _ _ _).1 h1
  refine rightP_of ((programB_iff _ _ _).2 ⟨a, ?_, ?_, d, all_take' e k⟩) (all_take' h2 k)
  · rw [List.length_take]; omega
  · rw [List.length_take]; omega
theorem first_law {es : List S72} {ns : List S36} {made : Bool} (h : (checkR made es ns).1 = 0) (k : Nat) (hk : 0 < k) : checkR made es (ns.take k) = (0, 0, 0) := by
  obtain ⟨hr, m, mf, he, hl, hn⟩ := checkR_none h
  have hsp := nodesM_append (es := es) (ns := ns) (ns.take k) (ns.drop k) m 0
  rw [List.take_append_drop, hn] at hsp
  cases hq : nodesM es ns m (ns.take k) 0 with
  | none => rw [hq] at hsp; cases hsp
  | some mk =>
    refine checkR_ok (rightP_take hr k hk) he (mf := mk) ?_
    rw [← hq]
    exact (nodesM_congr k (fun v h0 hv => (rd_take ns k v h0 hv).symm) (ns.take k) m 0 hl (by rw [List.length_take]; omega)).symm
theorem checkR_nonempty {es : List S72} {ns : List S36} {made : Bool} (h : (checkR made es ns).1 = 0) : 0 < ns.length := by
  obtain ⟨hr, _⟩ := checkR_none h
  exact ((programB_iff _ _ _).1 (rightP_parts hr).1).2.1
end Go.Proofs.Ytcekbkbhaceilaa
