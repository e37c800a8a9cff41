/- The law RereadOnly: its walk. -/
import Derived.Test.YticndoihkfbpoaaGreatDoorOk
import Derived.Test.YticndoihkfbpoaaGreatDoorOn
namespace Go.Proofs.YticndoihkfbpoaaGreatDoor
open Go Go.RowKit Go.Lib Go.Proofs.YticndoihkfbpoaaGreatDoorW.PrintWords Go.Proofs.YticndoihkfbpoaaGreatDoor.PScope
set_option maxRecDepth 100000
set_option linter.unusedSimpArgs false
set_option linter.unusedVariables false
attribute [local irreducible] wpStill
theorem words_rows (s : ByteArray) (hs : s.size ≤ 1099511627776) (w : World) (hL : LaidR w) :
  Calls Tryz.prog 37 #[.string s] w fun e W' => ∃ (A : Option Addr) (c : Nat), e = .returned (.slice A (wordsP s).length c) ∧ Kd.string.C W' A (wordsP s).length (wordsP s) ∧ Below w.heap.size w W' := by
 refine (words_calls s hs w hL).mono ?_
 rintro e W' ⟨v, rfl, hR, hb⟩
 obtain ⟨A, c, rfl, _, hC⟩ := Kd.R_reads hR
 exact ⟨A, c, rfl, hC, hb⟩
set_option maxHeartbeats 4000000 in
theorem rereadOnly_calls (s : ByteArray) (hs : s.size ≤ 140737488351232) (w : World) (hL : LaidR w) : Calls Tryz.prog 10 #[.string s] w fun e w' => e = .returned (.bool true) ∧ Below w.heap.size w w' := by
 have HL := Aside0.mk hL
 have HS := Aside0.mk hs
 clear hL hs
 go_enter Tryz.func10, Tryz.ntmps10
 go_wp2_with fail
 refine (klives_calls _ HL.out).mono ?_
 rintro e w1 ⟨rfl, hb⟩
 have HB := Aside0.mk hb
 clear hb
 go_wp2_with fail
 refine (parse_calls s _ (by have := HS.out; omega) (HL.out.below HB.out)).mono ?_
 rintro e w2 hp
 unfold ParsePost at hp
 cases hq : parseP s with
 | error f =>
  rw [hq] at hp
  obtain ⟨v, er, a, rfl, hb, rfl, rfl, rfl⟩ := hp
  have hne : (f.1 != 0) = true := by
   rcases parse_fails hq with ⟨rfl, _⟩ | ⟨h, _⟩
   ·rfl
   ·rcases h.1 with h | h <;> rw [h] <;> rfl
  replace HB := Aside0.mk (below_step HB.out hb)
  replace HB := Aside0.mk (below_alloc (below_alloc HB.out (.cells #[.slice none 0 0] 24 (0, 0))) (.cells #[.int .i64 f.1, .int .i64 (f.2 : Int), .int .i64 0] 61 (0, 0)))
  clear hb
  go_wp2_with fail
  all_goals try (exact absurd (by simpa using hne) ‹¬ _›)
  go_ret
  exact ⟨rfl, HB.out⟩
 | ok l =>
  rw [hq] at hp
  obtain ⟨v, er, a, rfl, hb, rfl, rfl, hR⟩ := hp
  obtain ⟨A, c, rfl, _, hC⟩ := Kd.R_reads hR
  obtain ⟨tw, tf, tn, tj, ts⟩ := text_words hq
  obtain ⟨pw, _, ps⟩ := parse_words hq
  replace HB := Aside0.mk (below_step HB.out hb)
  replace HB := Aside0.mk (below_alloc (below_alloc HB.out (.cells #[.slice A l.length c] 24 (0, 0))) (.cells #[.int .i64 0, .int .i64 0, .int .i64 0] 61 (0, 0)))
  have HC := Aside0.mk (Kd.C_alloc (Kd.C_alloc hC (.cells #[.slice A l.length c] 24 (0, 0))) (.cells #[.int .i64 0, .int .i64 0, .int .i64 0] 61 (0, 0)))
  have HT := Aside0.mk (fun W hL hC => text_calls (w := W) hL l tf A c hC (by omega) (by omega))
  have HW1 := Aside0.mk (fun W hL => words_rows (textB l) (by omega) W hL)
  have HW2 := Aside0.mk (fun W hL => words_rows s (by omega) W hL)
  rw [tw] at HW1
  clear hb hR hC tf tn tj ts pw ps tw
  go_wp2_with fail
  refine (HT.out _ (HL.out.below HB.out) HC.out).mono ?_
  rintro e w3 ⟨rfl, hb⟩
  replace HB := Aside0.mk (below_step HB.out hb)
  clear hb
  go_wp2_with fail
  refine (HW1.out _ (HL.out.below HB.out)).mono ?_
  rintro e w4 ⟨A1, c1, rfl, hC1, hb⟩
  replace HB := Aside0.mk (below_step HB.out hb)
  have HC1 := Aside0.mk hC1
  clear hb hC1
  go_wp2_with fail
  refine (HW2.out _ (HL.out.below HB.out)).mono ?_
  rintro e w5 ⟨A2, c2, rfl, hC2, hb⟩
  replace HB := Aside0.mk (below_step HB.out hb)
  replace HC1 := Aside0.mk (Kd.C_below HC1.out hb)
  have HC2 := Aside0.mk hC2
  clear hb hC2
  go_wp2_with fail
  refine (names_same (wordsP s) A1 A2 c1 c2 _ HC1.out HC2.out).mono ?_
  rintro e w6 ⟨rfl, hb⟩
  replace HB := Aside0.mk (below_step HB.out hb)
  clear hb
  go_wp2_with fail
  go_ret
  exact ⟨rfl, HB.out⟩
end Go.Proofs.YticndoihkfbpoaaGreatDoor
