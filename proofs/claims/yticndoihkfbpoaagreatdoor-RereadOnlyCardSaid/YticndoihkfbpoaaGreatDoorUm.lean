/- Package reread, in plain Lean: whoever reads goes on. -/
import Derived.Test.YticndoihkfbpoaaGreatDoorUa
namespace Go.Proofs.YticndoihkfbpoaaGreatDoor
open Go Go.RowKit Go.Lib Go.Proofs.YticndoihkfbpoaaGreatDoorW.PrintWords Go.Proofs.YticndoihkfbpoaaGreatDoor.PScope
set_option maxRecDepth 100000
set_option linter.unusedSimpArgs false
set_option linter.unusedVariables false
section
variable {ws : List ByteArray}
def Fwd {α : Type} (r : Rd α) : Prop := ∀ k x k', r k = .ok (x, k') → k < k'
theorem wantR_fwd {s : ByteArray} {k k' : Nat} (h : wantR ws s k = .ok k') : k' = k + 1 := by
 unfold wantR at h; split at h
 ·injection h with h; exact h.symm
 ·cases h
theorem numberR_fwd : Fwd (numberR ws) := by
 intro k x k' h; unfold numberR at h; split at h
 ·injection h with h; injection h with _ h; omega
 ·cases h
theorem nameR_fwd : Fwd (nameR ws) := by
 intro k x k' h; unfold nameR at h; split at h
 ·injection h with h; injection h with _ h; omega
 ·cases h
theorem manyR_fwd {α : Type} {r : Rd α} (hr : Fwd r) : ∀ (m k : Nat) (l : List α) (x : List α) (k' : Nat), manyR ws r m k l = .ok (x, k') → k < k'
 | 0, _, _, _, _, h => by cases h
 | m + 1, k, l, x, k', h => by
  unfold manyR at h
  split at h
  ·cases hq : r (k + 1) with
   | error f => rw [hq] at h; cases h
   | ok y =>
    rw [hq] at h
    have h1 := hr (k + 1) y.1 y.2 hq
    have h2 := manyR_fwd hr m y.2 _ x k' h
    omega
  ·cases hq : wantR ws clsS k with
   | error f => rw [hq] at h; cases h
   | ok y =>
    rw [hq] at h
    have h1 := wantR_fwd hq
    injection h with h; injection h with _ h
    omega
theorem listR_fwd {α : Type} {r : Rd α} (hr : Fwd r) : Fwd (listR ws r) := by
 intro k x k' h
 unfold listR at h
 cases hq : wantR ws opnS k with
 | error f => rw [hq] at h; cases h
 | ok k1 =>
  rw [hq] at h
  have h1 := wantR_fwd hq
  dsimp only at h
  split at h
  ·injection h with h; injection h with _ h; omega
  ·cases hq2 : r k1 with
   | error f => rw [hq2] at h; cases h
   | ok y =>
    rw [hq2] at h
    have h2 := hr k1 y.1 y.2 hq2
    have h3 := manyR_fwd hr _ _ _ _ _ h
    omega
theorem tillB_fwd {σ : Type} {r : σ → Rd σ} (hr : ∀ s, Fwd (r s)) : ∀ (m k : Nat) (s x : σ) (k' : Nat), tillB ws r m k s = .ok (x, k') → k < k'
 | 0, _, _, _, _, h => by cases h
 | m + 1, k, s, x, k', h => by
  unfold tillB at h
  split at h
  ·injection h with h; injection h with _ h; omega
  ·cases hq : r s k with
   | error f => rw [hq] at h; cases h
   | ok y =>
    rw [hq] at h
    have h1 := hr s k y.1 y.2 hq
    have h2 := tillB_fwd hr m y.2 _ x k' h
    omega
theorem tillR_fwd {σ : Type} {r : σ → Rd σ} (hr : ∀ s, Fwd (r s)) (s : σ) : Fwd (tillR ws r s) := by
 intro k x k' h
 unfold tillR at h
 cases hq : wantR ws braS k with
 | error f => rw [hq] at h; cases h
 | ok k1 =>
  rw [hq] at h
  have h1 := wantR_fwd hq
  have h2 := tillB_fwd hr _ _ _ _ _ h
  omega
end
section
variable {ws : List ByteArray}
theorem fin_ {α : Type} {a : α} {k : Nat} {x : α} {k' : Nat} (h : (Except.ok (a, k) : Except Flt (α × Nat)) = .ok (x, k')) : a = x ∧ k = k' := by
 injection h with h; injection h with h1 h2; exact ⟨h1, h2⟩
theorem cellR_fwd : Fwd (cellR ws) := by
 intro k x k' h
 unfold cellR at h
 split at h
 ·cases h
 rename_i k1 e1
 split at h
 ·cases h
 rename_i n e2
 split at h
 ·cases h
 rename_i k3 e3
 have := wantR_fwd e1; have := numberR_fwd _ n.1 n.2 e2; have := wantR_fwd e3; have := (fin_ h).2
 omega
theorem innerR_fwd {ex : Rd S38} (hx : Fwd ex) : Fwd (innerR ws ex) := by
 intro k x k' h
 unfold innerR at h
 split at h
 ·split at h
  ·cases h
  rename_i a e1
  have := hx _ a.1 a.2 e1; have := (fin_ h).2
  omega
 ·split at h
  ·split at h
   ·cases h
   rename_i a e1
   split at h
   ·cases h
   rename_i k2 e2
   split at h
   ·cases h
   rename_i b e3
   split at h
   ·cases h
   rename_i k4 e4
   split at h
   ·cases h
   rename_i c e5
   have := hx _ a.1 a.2 e1; have := wantR_fwd e2; have := hx _ b.1 b.2 e3; have := wantR_fwd e4; have := hx _ c.1 c.2 e5; have := (fin_ h).2
   omega
  ·split at h
   ·cases h
   rename_i a e1
   have := hx _ a.1 a.2 e1
   split at h
   ·split at h
    ·cases h
    rename_i b e2
    have := hx _ b.1 b.2 e2; have := (fin_ h).2
    omega
   ·cases h
theorem exprR_fwd : ∀ d, Fwd (exprR ws d)
 | 0 => fun k x k' h => by cases h
 | d + 1 => fun k x k' h => by
  unfold exprR at h
  split at h
  ·have := (fin_ h).2; omega
  ·split at h
   ·split at h
    ·cases h
    rename_i n e1
    have := cellR_fwd _ n.1 n.2 e1; have := (fin_ h).2
    omega
   ·split at h
    ·split at h
     ·cases h
     rename_i n e1
     split at h
     ·cases h
     rename_i k2 e2
     have := innerR_fwd (exprR_fwd d) _ n.1 n.2 e1; have := wantR_fwd e2; have := (fin_ h).2
     omega
    ·split at h
     ·cases h
     rename_i n e1
     have := nameR_fwd _ n.1 n.2 e1; have := (fin_ h).2
     omega
theorem callR_fwd : Fwd (callR ws) := by
 intro k x k' h
 unfold callR at h
 split at h
 ·cases h
 rename_i n e1
 split at h
 ·cases h
 rename_i k2 e2
 split at h
 ·cases h
 rename_i m e3
 split at h
 ·cases h
 rename_i k4 e4
 have := numberR_fwd _ n.1 n.2 e1; have := wantR_fwd e2; have := numberR_fwd _ m.1 m.2 e3; have := wantR_fwd e4; have := (fin_ h).2
 omega
theorem armR_fwd {blk : Rd (List FS)} (hb : Fwd blk) (l : List (Int × List FS)) : Fwd (armR ws blk l) := by
 intro k x k' h
 unfold armR at h
 split at h
 ·cases h
 rename_i k1 e1
 split at h
 ·cases h
 rename_i n e2
 split at h
 ·cases h
 rename_i b e3
 have := wantR_fwd e1; have := numberR_fwd _ n.1 n.2 e2; have := hb _ b.1 b.2 e3; have := (fin_ h).2
 omega
theorem choiceR_fwd {blk : Rd (List FS)} (hb : Fwd blk) : Fwd (choiceR ws blk) := by
 intro k x k' h
 unfold choiceR at h
 split at h
 ·cases h
 rename_i n e1
 split at h
 ·cases h
 rename_i a e2
 have := nameR_fwd _ n.1 n.2 e1; have := tillR_fwd (armR_fwd hb) _ _ a.1 a.2 e2; have := (fin_ h).2
 omega
theorem plainR_fwd {ex : Rd S38} (hx : Fwd ex) : Fwd (plainR ws ex) := by
 intro k x k' h
 unfold plainR at h
 split at h
 ·split at h
  ·cases h
  rename_i n e1
  split at h
  ·cases h
  rename_i k2 e2
  split at h
  ·cases h
  rename_i y e3
  have := cellR_fwd _ n.1 n.2 e1; have := wantR_fwd e2; have := hx _ y.1 y.2 e3; have := (fin_ h).2
  omega
 ·split at h
  ·split at h
   ·cases h
   rename_i c e1
   have := callR_fwd _ c.1 c.2 e1; have := (fin_ h).2
   omega
  ·split at h
   ·split at h
    ·cases h
    rename_i ns e1
    split at h
    ·cases h
    rename_i k2 e2
    split at h
    ·cases h
    rename_i k3 e3
    split at h
    ·cases h
    rename_i c e4
    split at h
    ·cases h
    rename_i ar e5
    have := listR_fwd nameR_fwd _ ns.1 ns.2 e1; have := wantR_fwd e2; have := wantR_fwd e3; have := callR_fwd _ c.1 c.2 e4; have := listR_fwd hx _ ar.1 ar.2 e5; have := (fin_ h).2
    omega
   ·split at h
    ·cases h
    rename_i n e1
    split at h
    ·cases h
    rename_i k2 e2
    split at h
    ·cases h
    rename_i y e3
    have := nameR_fwd _ n.1 n.2 e1; have := wantR_fwd e2; have := hx _ y.1 y.2 e3; have := (fin_ h).2
    omega
theorem stmtR_fwd {ex : Rd S38} {blk : Rd (List FS)} (hx : Fwd ex) (hb : Fwd blk) : Fwd (stmtR ws ex blk) := by
 intro k x k' h
 unfold stmtR at h
 split at h
 ·have := choiceR_fwd hb _ x k' h; omega
 ·split at h
  ·cases h
  rename_i s e1
  split at h
  ·cases h
  rename_i k2 e2
  have := plainR_fwd hx _ s.1 s.2 e1; have := wantR_fwd e2; have := (fin_ h).2
  omega
theorem snocR_fwd {α : Type} {r : Rd α} (hr : Fwd r) (l : List α) : Fwd (snocR r l) := by
 intro k x k' h
 unfold snocR at h
 split at h
 ·cases h
 rename_i y e1
 have := hr _ y.1 y.2 e1; have := (fin_ h).2
 omega
theorem blockR_fwd : ∀ d, Fwd (blockR ws d)
 | 0 => fun k x k' h => by cases h
 | d + 1 => fun k x k' h => tillR_fwd (fun l => snocR_fwd (stmtR_fwd (exprR_fwd d) (blockR_fwd d)) l) _ _ x k' h
theorem flagR_fwd : Fwd (flagR ws) := by
 intro k x k' h
 unfold flagR at h
 split at h
 ·cases h
 rename_i n e1
 split at h
 ·cases h
 rename_i k2 e2
 have := numberR_fwd _ n.1 n.2 e1; have := wantR_fwd e2; have := (fin_ h).2
 omega
theorem partR_fwd : Fwd (partR ws) := by
 intro k x k' h
 unfold partR at h
 split at h
 ·cases h
 rename_i k1 e1
 split at h
 ·cases h
 rename_i a e2
 split at h
 ·cases h
 rename_i k3 e3
 split at h
 ·cases h
 rename_i b e4
 split at h
 ·cases h
 rename_i k5 e5
 split at h
 ·cases h
 rename_i k6 e6
 have := wantR_fwd e1; have := numberR_fwd _ a.1 a.2 e2; have := wantR_fwd e3; have := numberR_fwd _ b.1 b.2 e4; have := wantR_fwd e5; have := wantR_fwd e6; have := (fin_ h).2
 omega
theorem funcR_fwd : Fwd (funcR ws) := by
 intro k x k' h
 unfold funcR at h
 split at h
 ·cases h
 rename_i k1 e1
 split at h
 ·cases h
 rename_i ps e2
 split at h
 ·cases h
 rename_i k3 e3
 split at h
 ·cases h
 rename_i rs e4
 split at h
 ·cases h
 rename_i k5 e5
 split at h
 ·cases h
 rename_i n e6
 split at h
 ·cases h
 rename_i k7 e7
 split at h
 ·cases h
 rename_i fl e8
 split at h
 ·cases h
 rename_i k9 e9
 split at h
 ·cases h
 rename_i pt e10
 split at h
 ·cases h
 rename_i b e11
 have := wantR_fwd e1; have := listR_fwd nameR_fwd _ ps.1 ps.2 e2; have := wantR_fwd e3; have := listR_fwd nameR_fwd _ rs.1 rs.2 e4; have := wantR_fwd e5; have := numberR_fwd _ n.1 n.2 e6
 have := wantR_fwd e7; have := tillR_fwd (fun l => snocR_fwd flagR_fwd l) _ _ fl.1 fl.2 e8; have := wantR_fwd e9; have := tillR_fwd (fun l => snocR_fwd partR_fwd l) _ _ pt.1 pt.2 e10; have := blockR_fwd 200 _ b.1 b.2 e11; have := (fin_ h).2
 omega
end
end Go.Proofs.YticndoihkfbpoaaGreatDoor
