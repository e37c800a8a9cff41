/- Plain laws of scope's answer: of a program without a fault a node's variables are unlike, its results are defined, what its equations read is there. -/
import Derived.Test.YtcekbkbhaceilaaSp
import Derived.Test.YtcekbkbhaceilaaSq
import Derived.Test.YtcekbkbhaceilaaPScopex1
namespace Go.Proofs.Ytcekbkbhaceilaa
open Go Go.RowKit Go.Lib Go.Proofs.YtcekbkbhaceilaaW.PrintWords Go.Proofs.Ytcekbkbhaceilaa.PScope
set_option maxRecDepth 100000
set_option linter.unusedSimpArgs false
set_option linter.unusedVariables false

theorem has_tells (l : List ByteArray) (a : ByteArray) (hl : l.length < 9223372036854775807) (d : Nat) : ∀ (k i : Nat), i ≤ l.length → l.length - i = d → d < k →
    penduleref01_Has.l0 k l a (i : Int) = some ((l.drop i).any fun x => decide (x = a)) := by
  induction d with
  | zero =>
    intro k i hi hd hk
    obtain ⟨k, rfl⟩ : ∃ m, k = m + 1 := ⟨k - 1, by omega⟩
    obtain rfl : i = l.length := by omega
    simp only [penduleref01_Has.l0]
    rw [if_neg (by omega)]; simp
  | succ d ih =>
    intro k i hi hd hk
    obtain ⟨k, rfl⟩ : ∃ m, k = m + 1 := ⟨k - 1, by omega⟩
    have hlt : i < l.length := by omega
    have hdr : l.drop i = l[i] :: l.drop (i + 1) := List.drop_eq_getElem_cons hlt
    have hrd : rdOf ByteArray.empty l (i : Int) = l[i] := by simp [rdOf, hlt]
    simp only [penduleref01_Has.l0]
    rw [if_pos (by omega), if_pos (by omega), hrd]
    by_cases e : l[i].toList = a.toList
    · rw [if_pos e, hdr, List.any_cons, decide_eq_true (toList_inj e), Bool.true_or]
    · have : ¬ l[i] = a := by rintro rfl; exact e rfl
      rw [if_neg e, hdr, List.any_cons, decide_eq_false this, Bool.false_or, wrap_add (by omega) (by omega)]
      exact_mod_cast ih k (i + 1) (by omega) (by omega) (by omega)
theorem has_eq (l : List ByteArray) (a : ByteArray) (hl : l.length < 9223372036854775807) (k : Nat) (hk : l.length < k) : penduleref01_Has.f k l a = some (inB l a) := by
  have := has_tells l a hl l.length k 0 (by omega) (by omega) hk
  simpa [penduleref01_Has.f, inB] using this
theorem has_calls (A : Option Addr) (c : Nat) (l : List ByteArray) (s : ByteArray) (w : World) (hC : Kd.string.C w A l.length l) (hc : l.length ≤ c) (hl : l.length < 9223372036854775807) :
    Calls Try.prog 10 #[.slice A l.length c, .string s] w fun e w' => e = .returned (.bool (inB l s)) ∧ Drawn0 w w' :=
  penduleref01_Has.calls (l.length + 1) A c l s (inB l s) w hC hc (has_eq l s hl _ (by omega))

theorem addM_addM (V : SMap) (a b : List ByteArray) : addM (addM V 1 a) 1 b = addM V 1 (a ++ b) := by
  funext s
  unfold addM
  have hq : inB (a ++ b) s = (inB a s || inB b s) := by unfold inB; rw [List.any_append]
  rw [hq]
  cases inB a s <;> cases inB b s <;> rfl
theorem addM_none {V : SMap} {l : List ByteArray} {s : ByteArray} (h : addM V 1 l s = none) : ¬ s ∈ l ∧ V s = none := by
  unfold addM at h
  split at h
  · cases h
  · rename_i hi; exact ⟨fun hm => hi ((inB_iff _ _).2 hm), h⟩
theorem freshL_parts {P : ByteArray → Bool} {l : List ByteArray} (h : freshL P l = true) : l.Nodup ∧ ∀ s, s ∈ l → P s = false := by
  unfold freshL unlikeB at h
  simp only [Bool.and_eq_true, decide_eq_true_eq, Bool.not_eq_true'] at h
  exact ⟨h.1, fun s hs => by have := List.any_eq_false.1 h.2 s hs; simpa using this⟩
theorem runDefs_none (l : List S46) : ∀ (m : Mp) (V : SMap) (b : Nat) (m' : Mp) (V' : SMap), runDefs m V l b = (none, m', V') →
    V' = addM V 1 (l.flatMap definesL) ∧ (l.flatMap definesL).Nodup ∧ ∀ s, s ∈ l.flatMap definesL → V s = none := by
  induction l with
  | nil => intro m V b m' V' h; rw [runDefs] at h; cases h; exact ⟨(addM_nil V 1).symm, List.nodup_nil, fun s hs => by cases hs⟩
  | cons x r ih =>
    intro m V b m' V' h
    rw [runDefs] at h
    split at h
    · rename_i hd
      have hf : freshL (fun s => (V s).isSome) (definesL x) = true := by
        unfold defB at hd; simp only [Bool.and_eq_true] at hd; exact hd.1
      obtain ⟨f1, f2⟩ := freshL_parts hf
      obtain ⟨h1, h2, h3⟩ := ih _ _ _ _ _ h
      refine ⟨?_, ?_, ?_⟩
      · rw [h1, addM_addM, List.flatMap_cons]
      · rw [List.flatMap_cons, List.nodup_append]
        exact ⟨f1, h2, fun a ha b hb e => (addM_none (h3 b hb)).1 (e ▸ ha)⟩
      · intro s hs
        rw [List.flatMap_cons, List.mem_append] at hs
        rcases hs with hs | hs
        · have := f2 s hs
          cases hv : V s with
          | none => rfl
          | some v => rw [hv] at this; cases this
        · exact (addM_none (h3 s hs)).2
    · cases h
theorem nodesM_each {es : List S72} {ns : List S36} (l : List S36) : ∀ (m mf : Mp) (b : Nat), nodesM es ns m l b = some mf → ∀ n, n ∈ l → ∃ m', (nodeR es ns m' n).2.1 = false := by
  induction l with
  | nil => intro m mf b _ n hn; cases hn
  | cons y t ih =>
    intro m mf b h n hn
    rw [nodesM] at h
    split at h
    · cases h
    · rename_i hy
      rcases List.mem_cons.1 hn with rfl | hr
      · exact ⟨m, by simpa using hy⟩
      · exact ih _ _ _ h n hr
def VarsOk (n : S36) : Prop :=
  (varsL n).Nodup ∧ (∀ o, o ∈ n.f3 → o ∈ varsL n ∧ ¬ o ∈ n.f2) ∧ ∀ x, x ∈ n.f4 → x.f1.length = 0 → x.f0.f1.f0 = 4 → x.f0.f1.f1 ∈ varsL n
theorem firstUse_none {U : S41 → Bool → Int → Bool} (l : List S46) : ∀ b, firstUse U l b = none → ∀ x, x ∈ l → itemUB U x = true := by
  induction l with
  | nil => intro b _ x hx; cases hx
  | cons y r ih =>
    intro b h x hx
    rw [firstUse] at h
    split at h
    · rename_i hy
      rcases List.mem_cons.1 hx with rfl | hr
      · exact hy
      · exact ih _ h x hr
    · cases h
theorem mkM0_getD (l : List ByteArray) (s : ByteArray) : (mkM 0 l s).getD 0 = 0 := by unfold mkM; split <;> rfl
theorem mkM_none {v : Int} {l : List ByteArray} {s : ByteArray} (h : mkM v l s = none) : ¬ s ∈ l := by
  unfold mkM at h
  split at h
  · cases h
  · rename_i hi; exact fun hm => hi ((inB_iff _ _).2 hm)
theorem mkM_some {v : Int} {l : List ByteArray} {s : ByteArray} (h : (mkM v l s).isSome = true) : s ∈ l := by
  unfold mkM at h
  split at h
  · rename_i hi; exact (inB_iff _ _).1 hi
  · cases h
theorem varsOk_of {es : List S72} {ns : List S36} {m : Mp} {n : S36} (h : (nodeR es ns m n).2.1 = false) : VarsOk n := by
  unfold nodeR at h
  split at h
  · rename_i hh
    unfold headB head0 at hh
    simp only [Bool.and_eq_true] at hh
    have hnd : (n.f1 ++ n.f2).Nodup := by have := hh.1.2.1; unfold unlikeB at this; simpa using this
    have hn2 : n.f2.Nodup := (List.nodup_append.1 hnd).2.1
    generalize hR : runDefs m (mkM 0 n.f2) n.f4 0 = R at h
    obtain ⟨q, m', V'⟩ := R
    cases q with
    | some b => unfold nodeT at h; cases h
    | none =>
      obtain ⟨h1, h2, h3⟩ := runDefs_none n.f4 m (mkM 0 n.f2) 0 m' V' hR
      unfold nodeT at h
      simp only at h
      split at h
      · cases h
      · rename_i hu
        have hset : ∀ o, o ∈ n.f3 → o ∈ n.f4.flatMap definesL := by
          intro o ho
          by_cases hd : o ∈ n.f4.flatMap definesL
          · exact hd
          · exfalso
            apply hu
            rw [List.any_eq_true]
            refine ⟨o, ho, ?_⟩
            unfold unset
            rw [h1]
            unfold addM
            rw [if_neg (by rw [inB_iff]; exact hd), mkM0_getD]; rfl
        refine ⟨?_, fun o ho => ⟨List.mem_append.2 (.inr (hset o ho)), mkM_none (h3 o (hset o ho))⟩, ?_⟩
        · unfold varsL
          rw [List.nodup_append]
          exact ⟨hn2, h2, fun a ha b hb e => mkM_none (h3 b hb) (e ▸ ha)⟩
        · intro x hx hx1 hx4
          unfold nodeE at h
          cases hq : firstUse (usesB m' V' (mkM 1 n.f1) es ns) n.f4 0 with
          | some b => rw [hq] at h; cases h
          | none =>
            have hi := firstUse_none n.f4 0 hq x hx
            unfold itemUB at hi
            rw [if_pos hx1, usesB_eq] at hi
            simp only [Bool.and_eq_true] at hi
            have ht := hi.1
            unfold topU at ht
            rw [if_pos hx4, h1] at ht
            unfold addM at ht
            split at ht
            · rename_i hin; exact List.mem_append.2 (.inr ((inB_iff _ _).1 hin))
            · exact List.mem_append.2 (.inl (mkM_some ht))
  · cases h
theorem vars_law {made : Bool} {es : List S72} {ns : List S36} (h : (checkR made es ns).1 = 0) (k : Nat) (hk : k < ns.length) : VarsOk (ns.getD k z36) := by
  obtain ⟨hr, m, mf, he, hl, hn⟩ := checkR_none h
  obtain ⟨m', hm⟩ := nodesM_each ns m mf 0 hn (ns.getD k z36) (by rw [List.getD_eq_getElem?_getD, List.getElem?_eq_getElem hk]; exact List.getElem_mem hk)
  exact varsOk_of hm
/-! ### how many variables -/
theorem sum_wS (l : List ByteArray) : (l.map wS).sum = l.length := by
  induction l with
  | nil => rfl
  | cons a r ih => simp only [List.map_cons, List.sum_cons, ih, wS, List.length_cons]; omega
theorem flat_le {α : Type} (f : α → List ByteArray) (wt : α → Nat) (l : List α) (h : ∀ x, x ∈ l → (f x).length ≤ wt x) : (l.flatMap f).length ≤ (l.map wt).sum := by
  induction l with
  | nil => simp
  | cons x r ih =>
    rw [List.flatMap_cons, List.length_append, List.map_cons, List.sum_cons]
    have := h x (List.mem_cons_self ..)
    have := ih (fun y hy => h y (List.mem_cons_of_mem _ hy))
    omega
theorem sum_at {α : Type} (wt : α → Nat) (l : List α) (z : α) (k : Nat) (h : k < l.length) : wt (l.getD k z) ≤ (l.map wt).sum := by
  induction l generalizing k with
  | nil => simp at h
  | cons x r ih =>
    rw [List.map_cons, List.sum_cons]
    cases k with
    | zero => show wt x ≤ _; omega
    | succ k => have := ih k (by simpa using h); show wt (r.getD k z) ≤ _; omega
theorem definesL_le (x : S46) : (definesL x).length ≤ wIt x := by
  unfold definesL wIt
  by_cases e : x.f1.length = 0
  · rw [if_pos e]; unfold wEq; rw [sum_wS]; omega
  · rw [if_neg e]
    have h1 := flat_le (fun q : S43 => q.f0) wEq (x.f1.getD 0 z90).f1 (fun q _ => by unfold wEq; rw [sum_wS]; exact Nat.le_refl _)
    have h2 := sum_at wSt x.f1 z90 0 (by omega)
    have h3 : wSt (x.f1.getD 0 z90) = 1 + ((x.f1.getD 0 z90).f1.map wEq).sum := rfl
    omega
theorem varsL_le (n : S36) : (varsL n).length ≤ wNd n := by
  unfold varsL wNd
  rw [List.length_append, sum_wS]
  have := flat_le definesL wIt n.f4 (fun x _ => definesL_le x)
  omega
theorem vars_bound {ns : List S36} {B : Nat} (h : (ns.map wNd).sum ≤ B) (k : Nat) (hk : k < ns.length) : (varsL (ns.getD k z36)).length ≤ B := by
  have h1 := varsL_le (ns.getD k z36)
  have h2 := sum_at wNd ns z36 k hk
  omega
end Go.Proofs.Ytcekbkbhaceilaa
