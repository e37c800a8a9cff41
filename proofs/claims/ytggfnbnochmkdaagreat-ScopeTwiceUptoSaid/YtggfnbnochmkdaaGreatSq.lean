/- Plain laws of scope's answer: of a program without a fault the first nodes alone have none. -/
import Derived.Test.YtggfnbnochmkdaaGreatSn
namespace Go.Proofs.YtggfnbnochmkdaaGreat
open Go Go.RowKit Go.Lib Go.Proofs.YtggfnbnochmkdaaGreatW.PrintWords Go.Proofs.YtggfnbnochmkdaaGreat.PScope
set_option maxRecDepth 100000
set_option linter.unusedSimpArgs false
set_option linter.unusedVariables false

section
variable {m : Mp} {V fs : SMap} {es : List S38} {ns ns' : List S35}
end
def NodesLt (m : Mp) (b : Nat) : Prop := ∀ s v, m.nodes s = some v → 0 ≤ v ∧ v < b
/-- The world behind some nodes; none: one of them is wrong. -/
def nodesM (es : List S38) (ns : List S35) : Mp → List S35 → Nat → Option Mp
  | m, [], _ => some m
  | m, n :: r, k => if (nodeR es ns m n).2.1 = true then none else nodesM es ns (nodeM (nodeR es ns m n).2.2 n k) r (k + 1)
theorem runNodes_some {es : List S38} {ns : List S35} (l : List S35) : ∀ (m : Mp) (b : Nat), (runNodes es ns m l b).1 = 0 → (nodesM es ns m l b).isSome = true := by
  induction l with
  | nil => intro m b _; rfl
  | cons n r ih =>
    intro m b h
    rw [runNodes] at h
    rw [nodesM]
    split
    · rename_i hc; rw [if_pos hc] at h; simp at h
    · rename_i hc; rw [if_neg hc] at h; exact ih _ _ h
theorem runEnums_nodes (l : List S38) : ∀ (m : Mp) (b : Nat), (runEnums m l b).2.nodes = m.nodes := by
  induction l with
  | nil => intro m b; rfl
  | cons t r ih => intro m b; rw [runEnums]; split; exact (ih _ _).trans rfl; rfl
/-- What there is of a program without a fault. -/
theorem checkR_none {made : Bool} {es : List S38} {ns : List S35} (h : (checkR made es ns).1 = 0) :
    rightP es ns made = 0 ∧ ∃ m mf, runEnums m0 es 0 = (none, m) ∧ NodesLt m 0 ∧ nodesM es ns m ns 0 = some mf := by
  unfold checkR at h
  by_cases hr : rightP es ns made = 0
  · rw [if_pos hr] at h
    refine ⟨hr, ?_⟩
    unfold scopeE at h
    have hn := runEnums_nodes es m0 0
    generalize runEnums m0 es 0 = R at h hn
    obtain ⟨q, m⟩ := R
    cases q with
    | some i => simp at h
    | none =>
      have hs := runNodes_some ns m 0 h
      obtain ⟨mf, hmf⟩ := Option.isSome_iff_exists.1 hs
      exact ⟨m, mf, rfl, (fun s v hs => by have hn' : m.nodes = m0.nodes := hn; rw [hn'] at hs; cases hs), hmf⟩
  · rw [if_neg hr] at h; exact absurd h hr
theorem rightP_parts {made : Bool} {es : List S38} {ns : List S35} (h : rightP es ns made = 0) : programB made es ns = true ∧ ns.all fitsB = true := by
  unfold rightP at h
  split at h
  · rename_i hp
    split at h
    · rename_i hf; exact ⟨hp, hf⟩
    · omega
  · omega
theorem programB_iff (made : Bool) (es : List S38) (ns : List S35) : programB made es ns = true ↔ (es.length : Int) ≤ mostI made ∧ 0 < ns.length ∧ ns.length ≤ 16 ∧ es.all (enumB made) = true ∧ ns.all (nodeB made) = true := by
  unfold programB
  rw [← all_any_not]
  simp only [Bool.and_eq_true, decide_eq_true_eq, Bool.not_eq_true', beq_eq_false_iff_ne]
  constructor
  · rintro ⟨a, b, c, d, e⟩; exact ⟨a, by omega, by omega, d, e⟩
  · rintro ⟨a, b, c, d, e⟩; exact ⟨a, by omega, by omega, d, e⟩
theorem checkR_nonempty {es : List S38} {ns : List S35} {made : Bool} (h : (checkR made es ns).1 = 0) : 0 < ns.length := by
  obtain ⟨hr, _⟩ := checkR_none h
  exact ((programB_iff _ _ _).1 (rightP_parts hr).1).2.1
end Go.Proofs.YtggfnbnochmkdaaGreat
