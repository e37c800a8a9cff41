/- For RunnerBegins: rows that are alike; beginning anew forgets the memory; rows kept beside a runner. -/
import Derived.Deep.LoopGhost
import Derived.Test.YticndoihkfbpoaaGreatDoorXn
namespace Go.Proofs.YticndoihkfbpoaaGreatDoor
open Go Go.RowKit Go.Lib Go.Proofs.YticndoihkfbpoaaGreatDoorW.PrintWords Go.Proofs.YticndoihkfbpoaaGreatDoor.PScope
set_option maxRecDepth 100000
set_option linter.unusedSimpArgs false
set_option linter.unusedVariables false
attribute [local irreducible] wpStill

set_option maxHeartbeats 2000000 in
/-- Rows that are alike. -/
theorem same_calls (xs : List Int) (A B : Option Addr) (cA cB : Nat) (w : World) (hA : (Kd.int .i64).C w A xs.length xs) (hB : (Kd.int .i64).C w B xs.length xs) :
    Calls Tryz.prog 27 #[.slice A xs.length cA, .slice B xs.length cB] w fun e w' => e = .returned (.bool true) ∧ Below w.heap.size w w' := by
  have HA := Aside0.mk hA
  have HBB := Aside0.mk hB
  have hm : xs.length ≤ 9223372036854775807 := hA.2.1
  clear hA hB
  have dl : ((xs.length : Int) != (xs.length : Int)) = false := by simp
  go_enter Tryz.func27, Tryz.ntmps27
  go_wp2_with fail
  go_loopg [5] xs.length (fun gg s5 wr => ∃ kk : Nat, kk ≤ xs.length ∧ xs.length - kk ≤ gg ∧ s5 = .int .i64 kk ∧ Aside0 (Below w.heap.size w wr))
  case atStart => exact ⟨0, Nat.zero_le _, by omega, rfl, ⟨Below.refl _ _⟩⟩
  case round =>
    obtain ⟨kk, hkk, hgk, rfl, HB⟩ := hrel
    by_cases hlt : kk < xs.length
    · have hltz : (kk : Int) < (xs.length : Int) := by omega
      obtain ⟨a, acs, rfl, _, aK, acc⟩ := Kd.C_get HA.out (0 : Int) (kk : Int) (by omega) (by omega)
      obtain ⟨b, bcs, rfl, _, bK, bcc⟩ := Kd.C_get HBB.out (0 : Int) (kk : Int) (by omega) (by omega)
      obtain rfl := aK
      obtain rfl := bK
      have x0 := (HB.out.cell (World.block_lt_of_cell? w _ (acc 0 _ rfl))).trans (acc 0 _ rfl)
      have y0 := (HB.out.cell (World.block_lt_of_cell? w _ (bcc 0 _ rfl))).trans (bcc 0 _ rfl)
      simp only [show (Kd.int .i64).sz = 1 from rfl, Nat.mul_one, Nat.add_zero, Int.toNat_natCast] at x0 y0
      clear acc bcc
      generalize xs.getD kk (0 : Int) = n at x0 y0
      have dn : (n != n) = false := by simp
      have HB2 := Aside0.mk (pw_below_drewN HB.out)
      go_wp2_with fail
      go_quiet (fail)
      go_wp2_with fail
      go_roundg (xs.length - (kk + 1))
      case measure => omega
      case rel => exact ⟨kk + 1, by omega, by omega, by go_num, ⟨HB2.out _⟩⟩
    · have hltz : ¬ (kk : Int) < (xs.length : Int) := by omega
      obtain rfl : kk = xs.length := by omega
      go_wp2_with fail
      go_ret
      exact ⟨rfl, HB.out⟩
/-! ### beginning anew -/
theorem clearM_all : ∀ (n b : Nat) (m : List Cl), b + n = m.length → clearM m b n = m.take b ++ List.replicate n (0, false)
  | 0, b, m, h => by
    rw [clearM, List.take_of_length_le (by omega)]; simp
  | n + 1, b, m, h => by
    rw [clearM, clearM_all n (b + 1) (m.set b (0, false)) (by simp; omega), List.take_add_one, List.getElem?_set_self (by omega)]
    have : (m.set b (0, false)).take b = m.take b := by
      apply List.ext_getElem?
      intro i
      by_cases hi : i < b
      · rw [List.getElem?_take_of_lt hi, List.getElem?_take_of_lt hi, List.getElem?_set_ne (by omega)]
      · rw [List.getElem?_eq_none (by simp; omega), List.getElem?_eq_none (by simp; omega)]
    rw [this, List.append_assoc]
    rfl
theorem begun_any {l : List FF} (hpos : 0 < l.length) {m : List Cl} (h : m.length = cellsN l) : begunM l m = begunM l (List.replicate (cellsN l) (0, false)) := by
  unfold begunM
  obtain ⟨d, hd⟩ : ∃ d, l.length = d + 1 := ⟨l.length - 1, by omega⟩
  have hc : (l.getD (((l.length - 1 : Nat) : Int)).toNat zFF).cells.toNat = cellsN l := by rw [Int.toNat_natCast]; rfl
  rw [hd] at hc ⊢
  rw [anewF, anewF, hc, show ((0 : Int)).toNat = 0 from rfl, clearM_all _ 0 m (by omega), clearM_all _ 0 (List.replicate (cellsN l) (0, false)) (by simp)]
  rfl
/-! ### the states of a run -/
abbrev St := List Cl × Bool × Int
def nextS (l : List FF) (N : Nat) (s : St) (ins : List Int) : St := ((stepR l N s.1 s.2.1 s.2.2 ins).1, (stepR l N s.1 s.2.1 s.2.2 ins).2.1, (stepR l N s.1 s.2.1 s.2.2 ins).2.2.1)
def outS (l : List FF) (N : Nat) (s : St) (ins : List Int) : List Int × Int := (stepR l N s.1 s.2.1 s.2.2 ins).2.2.2
def stK (l : List FF) (N : Nat) (m0 : List Cl) (script : List (List Int)) : Nat → St
  | 0 => (m0, false, 0)
  | k + 1 => nextS l N (stK l N m0 script k) (script.getD k [])
def outK (l : List FF) (N : Nat) (m0 : List Cl) (script : List (List Int)) (k : Nat) : List Int × Int := outS l N (stK l N m0 script k) (script.getD k [])
theorem stepR_st (l : List FF) (N : Nat) (s : St) (ins : List Int) : stepR l N s.1 s.2.1 s.2.2 ins = ((nextS l N s ins).1, (nextS l N s ins).2.1, (nextS l N s ins).2.2, (outS l N s ins).1, (outS l N s ins).2) := rfl
/-! ### rows kept beside a runner -/
theorem R_turned {α : Type} {d : Kd α} {e base : Nat} {ok : Nat → Prop} {W w' : World} {v : Value} {xs : List α} {S : Nat → Prop} (h : d.R e W base ok v xs) (hE : d.E = []) (ht : Turned S W w') (hs : ∀ k, v.ownBlock = some k → ¬ S k) : d.R e w' base (fun _ => True) v xs :=
  Kd.R_mono (Kd.R_step (Kd.R_tight hE h) (fun k ho hk => ht.block k hk (hs k ho.symm))) (fun _ _ => trivial)
/-- A slice of numbers that lies apart from a runner and from two rows. -/
def Held (W : World) (g : Nat) (ma : Addr) (v8 v9 u : Value) (xs : List Int) : Prop :=
  ∃ Ai ci, u = .slice Ai xs.length ci ∧ (Kd.int .i64).C W Ai xs.length xs ∧ ∀ ad, Ai = some ad → xs ≠ [] → ad.block ≠ g ∧ ad.block ≠ ma.block ∧ v8.ownBlock ≠ some ad.block ∧ v9.ownBlock ≠ some ad.block ∧ ad.block < W.heap.size
theorem ints_block {W w' : World} {A : Option Addr} {xs : List Int} (h : (Kd.int .i64).C W A xs.length xs) (hb : ∀ ad, A = some ad → xs ≠ [] → w'.heap[ad.block]? = W.heap[ad.block]?) : (Kd.int .i64).C w' A xs.length xs := by
  obtain ⟨h1, h2, h3⟩ := h
  refine ⟨h1, h2, fun hne => ?_⟩
  obtain ⟨ad, ha, hh⟩ := h3 hne
  refine ⟨ad, ha, fun j p hj => ?_⟩
  obtain ⟨cs, hl, hk, hcc⟩ := hh j p hj
  refine ⟨cs, hl, hk, fun i u hu => ?_⟩
  have hx : xs ≠ [] := by rintro rfl; simp at hj
  have hq : (ad.add (j * (Kd.int .i64).sz + i)).block = ad.block := by unfold Addr.add; split <;> rfl
  exact (World.cell?_of_block (by rw [hq]; exact hb ad ha hx)).trans (hcc i u hu)
theorem Held.turned {W w' : World} {g : Nat} {ma : Addr} {v8 v9 u : Value} {xs : List Int} (h : Held W g ma v8 v9 u xs) (ht : Turned (fun b => b = g ∨ b = ma.block) W w') : Held w' g ma v8 v9 u xs := by
  obtain ⟨Ai, ci, rfl, hC, hf⟩ := h
  refine ⟨Ai, ci, rfl, ints_block hC (fun ad e hne => ?_), fun ad e hne => ?_⟩
  · obtain ⟨n1, n2, _, _, hlt⟩ := hf ad e hne
    exact ht.block _ hlt (fun e => e.elim n1 n2)
  · obtain ⟨n1, n2, n3, n4, hlt⟩ := hf ad e hne
    exact ⟨n1, n2, n3, n4, Nat.lt_of_lt_of_le hlt ht.size⟩
/-- .. while the first row grows. -/
theorem Held.grow8 {W w' : World} {g : Nat} {ma : Addr} {v8 v9 v8' u : Value} {xs : List Int} (h : Held W g ma v8 v9 u xs) (hg : W.grownBy w' v8.ownBlock) (hat : v8'.ownBlock = v8.ownBlock ∨ ∃ b, v8'.ownBlock = some b ∧ W.heap.size ≤ b) : Held w' g ma v8' v9 u xs := by
  obtain ⟨Ai, ci, rfl, hC, hf⟩ := h
  refine ⟨Ai, ci, rfl, ints_block hC (fun ad e hne => ?_), fun ad e hne => ?_⟩
  · obtain ⟨n1, n2, n3, n4, hlt⟩ := hf ad e hne
    exact hg.block _ hlt (fun e => n3 e.symm)
  · obtain ⟨n1, n2, n3, n4, hlt⟩ := hf ad e hne
    refine ⟨n1, n2, ?_, n4, Nat.lt_of_lt_of_le hlt hg.size⟩
    rcases hat with e | ⟨b, e, hb⟩
    · rw [e]; exact n3
    · rw [e]; intro e2; injection e2 with e2; omega
theorem Held.grow9 {W w' : World} {g : Nat} {ma : Addr} {v8 v9 v9' u : Value} {xs : List Int} (h : Held W g ma v8 v9 u xs) (hg : W.grownBy w' v9.ownBlock) (hat : v9'.ownBlock = v9.ownBlock ∨ ∃ b, v9'.ownBlock = some b ∧ W.heap.size ≤ b) : Held w' g ma v8 v9' u xs := by
  obtain ⟨Ai, ci, rfl, hC, hf⟩ := h
  refine ⟨Ai, ci, rfl, ints_block hC (fun ad e hne => ?_), fun ad e hne => ?_⟩
  · obtain ⟨n1, n2, n3, n4, hlt⟩ := hf ad e hne
    exact hg.block _ hlt (fun e => n4 e.symm)
  · obtain ⟨n1, n2, n3, n4, hlt⟩ := hf ad e hne
    refine ⟨n1, n2, n3, ?_, Nat.lt_of_lt_of_le hlt hg.size⟩
    rcases hat with e | ⟨b, e, hb⟩
    · rw [e]; exact n4
    · rw [e]; intro e2; injection e2 with e2; omega
end Go.Proofs.YticndoihkfbpoaaGreatDoor
