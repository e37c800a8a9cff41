/- Contracts of package scan: sign, name, number: the token that is left first. -/
import Derived.Test.YtffeikfffmonkaaDoorScanB
import Derived.Test.YtffeikfffmonkaaDoorScanC0
import Derived.Test.YtffeikfffmonkaaDoorShelf
namespace Go.Proofs.YtffeikfffmonkaaDoor
open Go Go.RowKit Go.Lib Go.Proofs.YtffeikfffmonkaaDoorW.PrintWords
set_option maxRecDepth 100000
set_option linter.unusedSimpArgs false
set_option linter.unusedVariables false

/-- The sign that a text begins with. -/
def signOf (s : ByteArray) : Option ByteArray := signList.find? fun x => Lib.hasPrefix s.data.toList x.data.toList

/-- What sign answers: the token, and whether there is one. -/
def signTok : Option ByteArray → Value
  | some x => .tuple #[.agg #[.int .i64 4, .string x, .int .i64 0, .int .i64 0, .int .i64 0], .bool true]
  | none => .tuple #[.agg #[.int .i64 0, .string ⟨#[]⟩, .int .i64 0, .int .i64 0, .int .i64 0], .bool false]

theorem sign_find (l : List ByteArray) (q : ByteArray → Bool) (k : Nat) (h : ∀ j (hj : j < l.length), j < k → q l[j] = false) : (k = l.length → l.find? q = none) ∧ (∀ hk : k < l.length, q l[k] = true → l.find? q = some l[k]) := by
  induction l generalizing k with
  | nil => simp
  | cons a l ih =>
    cases k with
    | zero => exact ⟨fun h => by simp at h, fun hk hq => by simp at hq; simp [hq]⟩
    | succ k =>
      have ha : q a = false := h 0 (by simp) (by omega)
      obtain ⟨h1, h2⟩ := ih k (fun j hj hjk => by have := h (j + 1) (by simp; omega) (by omega); simpa using this)
      exact ⟨fun e => by simp [ha]; simpa using h1 (by simpa using e), fun hk hq => by simp [ha]; exact h2 (by simpa using hk) (by simpa using hq)⟩

theorem signAt_get (k : Nat) (hk : k < signList.length) : signList[k] = signAt k := by simp [signAt, hk]

theorem sign_calls (s : ByteArray) (w : World) :
    Calls Tryd.prog 44 #[.string s] w fun e w' => e = .returned (signTok (signOf s)) ∧ Below w.heap.size w w' := by
  have hS := fun W => signs_calls W
  have hP := fun (k : Nat) W => Tryd.strings_HasPrefix s (signAt k) W
  go_enter Tryd.func44, Tryd.ntmps44
  go_wp2_with (go_at_call 58; refine (hS _).mono ?_; rintro e w1 ⟨rfl, hb⟩)
  have hblk := below_blk (blk_new w _) hb
  have hB : Below w.heap.size w w1 := below_step (below_alloc (Below.refl _ _) _) hb
  clear hb hS
  have HB := Aside0.mk hB
  have HK := Aside0.mk hblk
  clear hB hblk
  go_loopw [5, 7] (fun x i wr => ∃ (k : Nat) (y : ByteArray), k ≤ 18 ∧ i = .int .i64 k ∧ Aside0 (∀ j, j < k → Lib.hasPrefix s.data.toList (signAt j).data.toList = false) ∧ Aside0 (wr = w1)) (fun _ i _ => 18 - (RowKit.intOf i).toNat)
  case atStart => exact ⟨0, ⟨#[]⟩, by omega, rfl, ⟨fun j hj => absurd hj (Nat.not_lt_zero _)⟩, by first | exact ⟨rfl⟩ | exact ⟨trivial⟩⟩
  case round =>
    obtain ⟨k, y, hk, rfl, A, ⟨rfl⟩⟩ := hrel
    by_cases hlt : k < 18
    · have d1 : decide ((k : Int) < 18) = true := decide_eq_true (by omega)
      have hidx := fun W => sign_index k hlt W
      have hp := fun W => hP k W
      clear hP
      obtain ⟨⟨c0, c1, c2, c3, c4⟩, f0, f1, f2, f3, f4⟩ := five_cells HK.out
      cases hq : Lib.hasPrefix s.data.toList (signAt k).data.toList with
      | true =>
        rw [hq] at hp
        have hf : signOf s = some (signAt k) := by
          have := (sign_find signList (fun x => Lib.hasPrefix s.data.toList x.data.toList) k (fun j hj hjk => by rw [signAt_get j hj]; exact A.out j hjk)).2 hlt (by rw [signAt_get k hlt]; exact hq)
          rw [signAt_get k hlt] at this; exact this
        have Hf := Lib.hid hf
        clear hf
        go_wp2_with (go_at_call 42; refine (hp _).mono ?_; rintro e w' ⟨rfl, rfl⟩)
        refine bodyPost_ret (results_ct rfl _ _ w.heap.size 32 #[.int .i64 4, .string (signAt k), .int .i64 0, .int .i64 0, .int .i64 0] (0, 0) _ rfl (five_heap HK.out _ _ _ _ _) Tryd.underlying32 rfl (by kernel_rfl)) rfl ⟨by rw [Hf.out]; rfl, five_below HB.out (Nat.le_refl _) _ _ _ _ _⟩
      | false =>
        rw [hq] at hp
        go_wp2_with (go_at_call 42; refine (hp _).mono ?_; rintro e w' ⟨rfl, rfl⟩)
        go_roundw
        case rel =>
          refine ⟨k + 1, y, by omega, by go_num, ⟨fun j hj => ?_⟩, by first | exact ⟨rfl⟩ | exact ⟨trivial⟩⟩
          by_cases e : j < k
          · exact A.out j e
          · obtain rfl : j = k := by omega
            exact hq
        case measure => simp [RowKit.intOf]; omega
    · obtain rfl : k = 18 := by omega
      obtain ⟨⟨c0, c1, c2, c3, c4⟩, f0, f1, f2, f3, f4⟩ := five_cells HK.out
      have hf : signOf s = none := (sign_find signList (fun x => Lib.hasPrefix s.data.toList x.data.toList) 18 (fun j hj hjk => by rw [signAt_get j hj]; exact A.out j hjk)).1 rfl
      have Hf := Lib.hid hf
      clear hf hP
      go_wp2
      refine bodyPost_ret (results_ct rfl _ _ w.heap.size 32 #[.int .i64 0, .string ⟨#[]⟩, .int .i64 0, .int .i64 0, .int .i64 0] (0, 0) _ rfl (five_heap HK.out _ _ _ _ _) Tryd.underlying32 rfl (by kernel_rfl)) rfl ⟨by rw [Hf.out]; rfl, five_below HB.out (Nat.le_refl _) _ _ _ _ _⟩
end Go.Proofs.YtffeikfffmonkaaDoor
