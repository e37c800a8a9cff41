/- Package reread, in plain Lean: where a reader fails, and with what; where it stands behind. -/
import Derived.Test.YticndoihkfbpoaaGreatDoorUa
namespace Go.Proofs.YticndoihkfbpoaaGreatDoor
open Go Go.RowKit Go.Lib Go.Proofs.YticndoihkfbpoaaGreatDoorW.PrintWords Go.Proofs.YticndoihkfbpoaaGreatDoor.PScope
set_option maxRecDepth 100000
set_option linter.unusedSimpArgs false
set_option linter.unusedVariables false
def BadF (n k : Nat) (f : Flt) : Prop := (f.1 = 3 ∨ f.1 = 9) ∧ k < f.2 ∧ f.2 ≤ n + 1
def Snd {α : Type} (n k : Nat) : Except Flt (α × Nat) → Prop
 | .ok x => k < x.2 ∧ x.2 ≤ n
 | .error f => BadF n k f
def SndN (n k : Nat) : Except Flt Nat → Prop
 | .ok x => x = k + 1 ∧ x ≤ n
 | .error f => BadF n k f
def Sound {α : Type} (n : Nat) (r : Rd α) : Prop := ∀ k, k ≤ n → Snd n k (r k)
theorem BadF.mono {n j k : Nat} {f : Flt} (h : j ≤ k) (hb : BadF n k f) : BadF n j f := ⟨hb.1, by have := hb.2.1; omega, hb.2.2⟩
theorem Snd.mono {α : Type} {n j k : Nat} {r : Except Flt (α × Nat)} (h : j ≤ k) (hb : Snd n k r) : Snd n j r := by
 cases r with
 | ok x => exact ⟨by have := hb.1; omega, hb.2⟩
 | error f => exact BadF.mono h hb
theorem snd_bad {α : Type} {n k : Nat} (e : Int) (he : e = 3 ∨ e = 9) (j : Nat) (h : k ≤ j) (h2 : j ≤ n) : Snd n k (.error (e, j + 1) : Except Flt (α × Nat)) := ⟨he, by show k < j + 1; omega, by show j + 1 ≤ n + 1; omega⟩
theorem snd_ok {α : Type} {n k : Nat} (a : α) (j : Nat) (h : k < j) (h2 : j ≤ n) : Snd n k (.ok (a, j) : Except Flt (α × Nat)) := ⟨h, h2⟩
section
variable {ws : List ByteArray}
theorem takes_below {s : ByteArray} {k : Nat} (h : takesR ws s k = true) : k < ws.length := by
 unfold takesR at h; simp only [Bool.and_eq_true, decide_eq_true_eq] at h; exact h.1
theorem word_below {k : Nat} (h : nextR ws k ≠ es) : k < ws.length := by
 refine Decidable.byContradiction fun hc => h ?_
 unfold nextR
 rw [List.getD_eq_getElem?_getD, List.getElem?_eq_none (by omega)]
 rfl
theorem wantR_snd (s : ByteArray) (k : Nat) (hk : k ≤ ws.length) : SndN ws.length k (wantR ws s k) := by
 unfold wantR
 split
 ·rename_i h; exact ⟨rfl, takes_below h⟩
 ·exact ⟨.inl rfl, by show k < k + 1; omega, by show k + 1 ≤ _; omega⟩
theorem wantR_snd' {s : ByteArray} {k : Nat} {r : Except Flt Nat} (e : wantR ws s k = r) (hk : k ≤ ws.length) : SndN ws.length k r := e ▸ wantR_snd s k hk
theorem numberR_snd : Sound ws.length (numberR ws) := by
 intro k hk
 unfold numberR
 split
 ·rename_i n h
  exact snd_ok _ _ (by omega) (word_below (fun he => by rw [he] at h; exact absurd h (by rw [show numP es = none by kernel_rfl]; exact fun h => by cases h)))
 ·exact snd_bad 3 (.inl rfl) _ (by omega) hk
theorem nameR_snd : Sound ws.length (nameR ws) := by
 intro k hk
 unfold nameR
 split
 ·rename_i h
  exact snd_ok _ _ (by omega) (word_below (fun he => by rw [he] at h; exact absurd h (by rw [show nameP es = false by kernel_rfl]; exact fun h => by cases h)))
 ·exact snd_bad 3 (.inl rfl) _ (by omega) hk
theorem manyR_snd {α : Type} {r : Rd α} (hr : Sound ws.length r) : ∀ (m k : Nat) (l : List α), k ≤ ws.length → ws.length < m + k → Snd ws.length k (manyR ws r m k l)
 | 0, k, _, hk, hm => by omega
 | m + 1, k, l, hk, hm => by
  unfold manyR
  split
  ·rename_i h
   have hk2 := takes_below h
   have hh := (hr (k + 1) hk2)
   split
   ·rename_i f e; rw [e] at hh; exact BadF.mono (by omega) hh
   rename_i x e; rw [e] at hh; have h1 := hh.1; have h2 := hh.2; clear hh e
   exact (manyR_snd hr m x.2 _ h2 (by omega)).mono (by omega)
  ·split
   ·rename_i f e; exact BadF.mono (by omega) (wantR_snd' e hk)
   rename_i y2 e; have e2 := (wantR_snd' e hk).1; have h := (wantR_snd' e hk).2; clear e
   exact snd_ok _ _ (by omega) h
theorem listR_snd {α : Type} {r : Rd α} (hr : Sound ws.length r) : Sound ws.length (listR ws r) := by
 intro k hk
 unfold listR
 split
 ·rename_i f e; exact BadF.mono (by omega) (wantR_snd' e hk)
 rename_i y3 e; have e3 := (wantR_snd' e hk).1; have h := (wantR_snd' e hk).2; clear e
 split
 ·rename_i h2; exact snd_ok _ _ (by omega) (takes_below h2)
 ·have hh := (hr _ h)
  split
  ·rename_i f e; rw [e] at hh; exact BadF.mono (by omega) hh
  rename_i x e; rw [e] at hh; have h1 := hh.1; have h2 := hh.2; clear hh e
  exact (manyR_snd hr _ _ _ h2 (by omega)).mono (by omega)
theorem tillB_snd {σ : Type} {r : σ → Rd σ} (hr : ∀ s, Sound ws.length (r s)) : ∀ (m k : Nat) (s : σ), k ≤ ws.length → ws.length < m + k → Snd ws.length k (tillB ws r m k s)
 | 0, k, _, hk, hm => by omega
 | m + 1, k, s, hk, hm => by
  unfold tillB
  split
  ·rename_i h; exact snd_ok _ _ (by omega) (word_below (by rw [h]; decide))
  ·have hh := (hr s k hk)
   split
   ·rename_i f e; rw [e] at hh; exact BadF.mono (by omega) hh
   rename_i x e; rw [e] at hh; have h1 := hh.1; have h2 := hh.2; clear hh e
   exact (tillB_snd hr m x.2 _ h2 (by omega)).mono (by omega)
theorem tillR_snd {σ : Type} {r : σ → Rd σ} (hr : ∀ s, Sound ws.length (r s)) (s : σ) : Sound ws.length (tillR ws r s) := by
 intro k hk
 unfold tillR
 split
 ·rename_i f e; exact BadF.mono (by omega) (wantR_snd' e hk)
 rename_i y6 e; have e6 := (wantR_snd' e hk).1; have h := (wantR_snd' e hk).2; clear e
 exact (tillB_snd hr _ _ _ h (by omega)).mono (by omega)
theorem cellR_snd : Sound ws.length (cellR ws) := by
 intro k hk
 unfold cellR
 split
 ·rename_i f e; exact BadF.mono (by omega) (wantR_snd' e hk)
 rename_i y7 e; have e7 := (wantR_snd' e hk).1; have h := (wantR_snd' e hk).2; clear e
 have hh := (numberR_snd _ h)
 split
 ·rename_i f e; rw [e] at hh; exact BadF.mono (by omega) hh
 rename_i x e; rw [e] at hh; have h1 := hh.1; have h2 := hh.2; clear hh e
 split
 ·rename_i f e; exact BadF.mono (by omega) (wantR_snd' e h2)
 rename_i y9 e; have e9 := (wantR_snd' e h2).1; have h := (wantR_snd' e h2).2; clear e
 exact snd_ok _ _ (by omega) h
theorem innerR_snd {ex : Rd S38} (hx : Sound ws.length ex) : Sound ws.length (innerR ws ex) := by
 intro k hk
 unfold innerR
 split
 ·rename_i h
  have hl : k < ws.length := word_below (by rcases h with h | h <;> rw [h] <;> decide)
  have hh := (hx _ hl)
  split
  ·rename_i f e; rw [e] at hh; exact BadF.mono (by omega) hh
  rename_i x e; rw [e] at hh; have h1 := hh.1; have h2 := hh.2; clear hh e
  exact snd_ok _ _ (by omega) h2
 ·split
  ·rename_i h
   have hl : k < ws.length := word_below (by rw [h]; decide)
   have hh := (hx _ hl)
   split
   ·rename_i f e; rw [e] at hh; exact BadF.mono (by omega) hh
   rename_i x e; rw [e] at hh; have h1 := hh.1; have h2 := hh.2; clear hh e
   split
   ·rename_i f e; exact BadF.mono (by omega) (wantR_snd' e h2)
   rename_i y12 e; have e12 := (wantR_snd' e h2).1; have h := (wantR_snd' e h2).2; clear e
   have hh := (hx _ h)
   split
   ·rename_i f e; rw [e] at hh; exact BadF.mono (by omega) hh
   rename_i x e; rw [e] at hh; have h1 := hh.1; have h2 := hh.2; clear hh e
   split
   ·rename_i f e; exact BadF.mono (by omega) (wantR_snd' e h2)
   rename_i y14 e; have e14 := (wantR_snd' e h2).1; have h := (wantR_snd' e h2).2; clear e
   have hh := (hx _ h)
   split
   ·rename_i f e; rw [e] at hh; exact BadF.mono (by omega) hh
   rename_i x e; rw [e] at hh; have h1 := hh.1; have h2 := hh.2; clear hh e
   exact snd_ok _ _ (by omega) h2
  ·have hh := (hx _ hk)
   split
   ·rename_i f e; rw [e] at hh; exact BadF.mono (by omega) hh
   rename_i x e; rw [e] at hh; have h1 := hh.1; have h2 := hh.2; clear hh e
   split
   ·rename_i h
    have hl : x.2 < ws.length := word_below (fun he => by rw [he] at h; exact absurd h (by decide))
    have hh := (hx _ hl)
    split
    ·rename_i f e; rw [e] at hh; exact BadF.mono (by omega) hh
    rename_i y e; rw [e] at hh; have h3 := hh.1; have h4 := hh.2; clear hh e
    exact snd_ok _ _ (by omega) h4
   ·exact snd_bad 3 (.inl rfl) _ (by omega) h2
theorem exprR_snd : ∀ d, Sound ws.length (exprR ws d)
 | 0 => fun k hk => by unfold exprR; exact snd_bad 9 (.inr rfl) _ (by omega) hk
 | d + 1 => by
  intro k hk
  unfold exprR
  split
  ·rename_i n h
   exact snd_ok _ _ (by omega) (word_below (fun he => by rw [he] at h; exact absurd h (by rw [show numP es = none by kernel_rfl]; exact fun h => by cases h)))
  ·split
   ·rename_i h
    have hl := takes_below h
    have hh := (cellR_snd _ hl)
    split
    ·rename_i f e; rw [e] at hh; exact BadF.mono (by omega) hh
    rename_i x e; rw [e] at hh; have h1 := hh.1; have h2 := hh.2; clear hh e
    exact snd_ok _ _ (by omega) h2
   ·split
    ·rename_i h
     have hl := takes_below h
     have hh := (innerR_snd (exprR_snd d) _ hl)
     split
     ·rename_i f e; rw [e] at hh; exact BadF.mono (by omega) hh
     rename_i x e; rw [e] at hh; have h1 := hh.1; have h2 := hh.2; clear hh e
     split
     ·rename_i f e; exact BadF.mono (by omega) (wantR_snd' e h2)
     rename_i y20 e; have e20 := (wantR_snd' e h2).1; have h := (wantR_snd' e h2).2; clear e
     exact snd_ok _ _ (by omega) h
    ·have hh := (nameR_snd _ hk)
     split
     ·rename_i f e; rw [e] at hh; exact BadF.mono (by omega) hh
     rename_i x e; rw [e] at hh; have h1 := hh.1; have h2 := hh.2; clear hh e
     exact snd_ok _ _ (by omega) h2
theorem callR_snd : Sound ws.length (callR ws) := by
 intro k hk
 unfold callR
 have hh := (numberR_snd _ hk)
 split
 ·rename_i f e; rw [e] at hh; exact BadF.mono (by omega) hh
 rename_i x e; rw [e] at hh; have h1 := hh.1; have h2 := hh.2; clear hh e
 split
 ·rename_i f e; exact BadF.mono (by omega) (wantR_snd' e h2)
 rename_i y23 e; have e23 := (wantR_snd' e h2).1; have h := (wantR_snd' e h2).2; clear e
 have hh := (numberR_snd _ h)
 split
 ·rename_i f e; rw [e] at hh; exact BadF.mono (by omega) hh
 rename_i x e; rw [e] at hh; have h1 := hh.1; have h2 := hh.2; clear hh e
 split
 ·rename_i f e; exact BadF.mono (by omega) (wantR_snd' e h2)
 rename_i y25 e; have e25 := (wantR_snd' e h2).1; have h := (wantR_snd' e h2).2; clear e
 exact snd_ok _ _ (by omega) h
theorem armR_snd {blk : Rd (List FS)} (hb : Sound ws.length blk) (l : List (Int × List FS)) : Sound ws.length (armR ws blk l) := by
 intro k hk
 unfold armR
 split
 ·rename_i f e; exact BadF.mono (by omega) (wantR_snd' e hk)
 rename_i y26 e; have e26 := (wantR_snd' e hk).1; have h := (wantR_snd' e hk).2; clear e
 have hh := (numberR_snd _ h)
 split
 ·rename_i f e; rw [e] at hh; exact BadF.mono (by omega) hh
 rename_i x e; rw [e] at hh; have h1 := hh.1; have h2 := hh.2; clear hh e
 have hh := (hb _ h2)
 split
 ·rename_i f e; rw [e] at hh; exact BadF.mono (by omega) hh
 rename_i x e; rw [e] at hh; have h1 := hh.1; have h2 := hh.2; clear hh e
 exact snd_ok _ _ (by omega) h2
theorem choiceR_snd {blk : Rd (List FS)} (hb : Sound ws.length blk) : Sound ws.length (choiceR ws blk) := by
 intro k hk
 unfold choiceR
 have hh := (nameR_snd _ hk)
 split
 ·rename_i f e; rw [e] at hh; exact BadF.mono (by omega) hh
 rename_i x e; rw [e] at hh; have h1 := hh.1; have h2 := hh.2; clear hh e
 have hh := (tillR_snd (fun s => armR_snd hb s) [] _ h2)
 split
 ·rename_i f e; rw [e] at hh; exact BadF.mono (by omega) hh
 rename_i x e; rw [e] at hh; have h1 := hh.1; have h2 := hh.2; clear hh e
 exact snd_ok _ _ (by omega) h2
theorem plainR_snd {ex : Rd S38} (hx : Sound ws.length ex) : Sound ws.length (plainR ws ex) := by
 intro k hk
 unfold plainR
 split
 ·rename_i h
  have hh := (cellR_snd _ (takes_below h))
  split
  ·rename_i f e; rw [e] at hh; exact BadF.mono (by omega) hh
  rename_i x e; rw [e] at hh; have h1 := hh.1; have h2 := hh.2; clear hh e
  split
  ·rename_i f e; exact BadF.mono (by omega) (wantR_snd' e h2)
  rename_i y32 e; have e32 := (wantR_snd' e h2).1; have h := (wantR_snd' e h2).2; clear e
  have hh := (hx _ h)
  split
  ·rename_i f e; rw [e] at hh; exact BadF.mono (by omega) hh
  rename_i x e; rw [e] at hh; have h1 := hh.1; have h2 := hh.2; clear hh e
  exact snd_ok _ _ (by omega) h2
 ·split
  ·rename_i h
   have hh := (callR_snd _ (takes_below h))
   split
   ·rename_i f e; rw [e] at hh; exact BadF.mono (by omega) hh
   rename_i x e; rw [e] at hh; have h1 := hh.1; have h2 := hh.2; clear hh e
   exact snd_ok _ _ (by omega) h2
  ·split
   ·have hh := (listR_snd nameR_snd _ hk)
    split
    ·rename_i f e; rw [e] at hh; exact BadF.mono (by omega) hh
    rename_i x e; rw [e] at hh; have h1 := hh.1; have h2 := hh.2; clear hh e
    split
    ·rename_i f e; exact BadF.mono (by omega) (wantR_snd' e h2)
    rename_i y36 e; have e36 := (wantR_snd' e h2).1; have h := (wantR_snd' e h2).2; clear e
    split
    ·rename_i f e; exact BadF.mono (by omega) (wantR_snd' e h)
    rename_i y37 e; have e37 := (wantR_snd' e h).1; have h := (wantR_snd' e h).2; clear e
    have hh := (callR_snd _ h)
    split
    ·rename_i f e; rw [e] at hh; exact BadF.mono (by omega) hh
    rename_i x e; rw [e] at hh; have h1 := hh.1; have h2 := hh.2; clear hh e
    have hh := (listR_snd hx _ h2)
    split
    ·rename_i f e; rw [e] at hh; exact BadF.mono (by omega) hh
    rename_i x e; rw [e] at hh; have h1 := hh.1; have h2 := hh.2; clear hh e
    exact snd_ok _ _ (by omega) h2
   ·have hh := (nameR_snd _ hk)
    split
    ·rename_i f e; rw [e] at hh; exact BadF.mono (by omega) hh
    rename_i x e; rw [e] at hh; have h1 := hh.1; have h2 := hh.2; clear hh e
    split
    ·rename_i f e; exact BadF.mono (by omega) (wantR_snd' e h2)
    rename_i y41 e; have e41 := (wantR_snd' e h2).1; have h := (wantR_snd' e h2).2; clear e
    have hh := (hx _ h)
    split
    ·rename_i f e; rw [e] at hh; exact BadF.mono (by omega) hh
    rename_i x e; rw [e] at hh; have h1 := hh.1; have h2 := hh.2; clear hh e
    exact snd_ok _ _ (by omega) h2
theorem stmtR_snd {ex : Rd S38} {blk : Rd (List FS)} (hx : Sound ws.length ex) (hb : Sound ws.length blk) : Sound ws.length (stmtR ws ex blk) := by
 intro k hk
 unfold stmtR
 split
 ·rename_i h; exact (choiceR_snd hb _ (takes_below h)).mono (by omega)
 ·have hh := (plainR_snd hx _ hk)
  split
  ·rename_i f e; rw [e] at hh; exact BadF.mono (by omega) hh
  rename_i x e; rw [e] at hh; have h1 := hh.1; have h2 := hh.2; clear hh e
  split
  ·rename_i f e; exact BadF.mono (by omega) (wantR_snd' e h2)
  rename_i y44 e; have e44 := (wantR_snd' e h2).1; have h := (wantR_snd' e h2).2; clear e
  exact snd_ok _ _ (by omega) h
theorem snocR_snd {α : Type} {r : Rd α} (hr : Sound ws.length r) (l : List α) : Sound ws.length (snocR r l) := by
 intro k hk
 unfold snocR
 have hh := (hr _ hk)
 split
 ·rename_i f e; rw [e] at hh; exact BadF.mono (by omega) hh
 rename_i x e; rw [e] at hh; have h1 := hh.1; have h2 := hh.2; clear hh e
 exact snd_ok _ _ (by omega) h2
theorem blockR_snd : ∀ d, Sound ws.length (blockR ws d)
 | 0 => fun k hk => by unfold blockR; exact snd_bad 9 (.inr rfl) _ (by omega) hk
 | d + 1 => by
  intro k hk
  unfold blockR
  exact tillR_snd (fun s => snocR_snd (stmtR_snd (exprR_snd d) (blockR_snd d)) s) _ _ hk
theorem flagR_snd : Sound ws.length (flagR ws) := by
 intro k hk
 unfold flagR
 have hh := (numberR_snd _ hk)
 split
 ·rename_i f e; rw [e] at hh; exact BadF.mono (by omega) hh
 rename_i x e; rw [e] at hh; have h1 := hh.1; have h2 := hh.2; clear hh e
 split
 ·rename_i f e; exact BadF.mono (by omega) (wantR_snd' e h2)
 rename_i y47 e; have e47 := (wantR_snd' e h2).1; have h := (wantR_snd' e h2).2; clear e
 exact snd_ok _ _ (by omega) h
theorem partR_snd : Sound ws.length (partR ws) := by
 intro k hk
 unfold partR
 split
 ·rename_i f e; exact BadF.mono (by omega) (wantR_snd' e hk)
 rename_i y48 e; have e48 := (wantR_snd' e hk).1; have h := (wantR_snd' e hk).2; clear e
 have hh := (numberR_snd _ h)
 split
 ·rename_i f e; rw [e] at hh; exact BadF.mono (by omega) hh
 rename_i x e; rw [e] at hh; have h1 := hh.1; have h2 := hh.2; clear hh e
 split
 ·rename_i f e; exact BadF.mono (by omega) (wantR_snd' e h2)
 rename_i y50 e; have e50 := (wantR_snd' e h2).1; have h := (wantR_snd' e h2).2; clear e
 have hh := (numberR_snd _ h)
 split
 ·rename_i f e; rw [e] at hh; exact BadF.mono (by omega) hh
 rename_i x e; rw [e] at hh; have h1 := hh.1; have h2 := hh.2; clear hh e
 split
 ·rename_i f e; exact BadF.mono (by omega) (wantR_snd' e h2)
 rename_i y52 e; have e52 := (wantR_snd' e h2).1; have h := (wantR_snd' e h2).2; clear e
 split
 ·rename_i f e; exact BadF.mono (by omega) (wantR_snd' e h)
 rename_i y53 e; have e53 := (wantR_snd' e h).1; have h := (wantR_snd' e h).2; clear e
 exact snd_ok _ _ (by omega) h
theorem funcR_snd : Sound ws.length (funcR ws) := by
 intro k hk
 unfold funcR
 split
 ·rename_i f e; exact BadF.mono (by omega) (wantR_snd' e hk)
 rename_i y54 e; have e54 := (wantR_snd' e hk).1; have h := (wantR_snd' e hk).2; clear e
 have hh := (listR_snd nameR_snd _ h)
 split
 ·rename_i f e; rw [e] at hh; exact BadF.mono (by omega) hh
 rename_i x e; rw [e] at hh; have h1 := hh.1; have h2 := hh.2; clear hh e
 split
 ·rename_i f e; exact BadF.mono (by omega) (wantR_snd' e h2)
 rename_i y56 e; have e56 := (wantR_snd' e h2).1; have h := (wantR_snd' e h2).2; clear e
 have hh := (listR_snd nameR_snd _ h)
 split
 ·rename_i f e; rw [e] at hh; exact BadF.mono (by omega) hh
 rename_i x e; rw [e] at hh; have h1 := hh.1; have h2 := hh.2; clear hh e
 split
 ·rename_i f e; exact BadF.mono (by omega) (wantR_snd' e h2)
 rename_i y58 e; have e58 := (wantR_snd' e h2).1; have h := (wantR_snd' e h2).2; clear e
 have hh := (numberR_snd _ h)
 split
 ·rename_i f e; rw [e] at hh; exact BadF.mono (by omega) hh
 rename_i x e; rw [e] at hh; have h1 := hh.1; have h2 := hh.2; clear hh e
 split
 ·rename_i f e; exact BadF.mono (by omega) (wantR_snd' e h2)
 rename_i y60 e; have e60 := (wantR_snd' e h2).1; have h := (wantR_snd' e h2).2; clear e
 have hh := (tillR_snd (fun s => snocR_snd flagR_snd s) [] _ h)
 split
 ·rename_i f e; rw [e] at hh; exact BadF.mono (by omega) hh
 rename_i x e; rw [e] at hh; have h1 := hh.1; have h2 := hh.2; clear hh e
 split
 ·rename_i f e; exact BadF.mono (by omega) (wantR_snd' e h2)
 rename_i y62 e; have e62 := (wantR_snd' e h2).1; have h := (wantR_snd' e h2).2; clear e
 have hh := (tillR_snd (fun s => snocR_snd partR_snd s) [] _ h)
 split
 ·rename_i f e; rw [e] at hh; exact BadF.mono (by omega) hh
 rename_i x e; rw [e] at hh; have h1 := hh.1; have h2 := hh.2; clear hh e
 have hh := (blockR_snd 200 _ h2)
 split
 ·rename_i f e; rw [e] at hh; exact BadF.mono (by omega) hh
 rename_i x e; rw [e] at hh; have h1 := hh.1; have h2 := hh.2; clear hh e
 exact snd_ok _ _ (by omega) h2
theorem funsR_snd : ∀ (m k : Nat) (l : List FF) (f : Flt), k ≤ ws.length → ws.length < m + k → funsR ws m k l = .error f → BadF ws.length k f
 | 0, k, _, _, hk, hm, _ => by omega
 | m + 1, k, l, f, hk, hm, h => by
  unfold funsR at h
  have hs := funcR_snd (ws := ws) k hk
  cases hq : funcR ws k with
  | error g =>
   rw [hq] at h hs
   injection h with h
   subst h
   exact hs
  | ok x =>
   rw [hq] at h hs
   dsimp only at h
   split at h
   ·cases h
   ·exact BadF.mono (by have := hs.1; omega) (funsR_snd m x.2 _ f hs.2 (by have := hs.1; omega) h)
end
theorem parse_fails {s : ByteArray} {f : Flt} (h : parseP s = .error f) : f = (9, 0) ∧ 1048576 < s.size ∨ BadF (wordsP s).length 0 f ∧ ¬ 1048576 < s.size := by
 unfold parseP at h
 split at h
 ·injection h with h; exact .inl ⟨h.symm, by assumption⟩
 ·exact .inr ⟨funsR_snd _ _ _ f (Nat.zero_le _) (by omega) h, by assumption⟩
end Go.Proofs.YticndoihkfbpoaaGreatDoor
