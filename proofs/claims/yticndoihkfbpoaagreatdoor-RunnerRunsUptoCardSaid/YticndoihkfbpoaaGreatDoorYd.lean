/- The reference: takes: how much the steps of statements take. -/
import Derived.Test.YticndoihkfbpoaaGreatDoorVd
namespace Go.Proofs.YticndoihkfbpoaaGreatDoor
open Go Go.RowKit Go.Lib Go.Proofs.YticndoihkfbpoaaGreatDoorW.PrintWords Go.Proofs.YticndoihkfbpoaaGreatDoor.PScope
set_option maxRecDepth 100000
set_option linter.unusedSimpArgs false
set_option linter.unusedVariables false
mutual
def tkS (g : Int → Int) (n : Int) : FS → Int
 | .mk op _ _ fn _ _ _ arms => min (tkA g (if op = 3 then n + g fn else n) arms) 1001
def tkL (g : Int → Int) (n : Int) : List FS → Int
 | [] => n
 | s :: r => tkL g (tkS g n s) r
def tkA (g : Int → Int) (n : Int) : List (Int × List FS) → Int
 | [] => n
 | a :: r => tkA g (n + tkP g a) r
def tkP (g : Int → Int) : Int × List FS → Int
 | (_, b) => tkL g 0 b
end
theorem tkP_eq (g : Int → Int) (a : Int × List FS) : tkP g a = tkL g 0 a.2 := by cases a; rw [tkP]
theorem tkS_eq (g : Int → Int) (n : Int) (s : FS) : tkS g n s = min (tkA g (if s.op = 3 then n + g s.fn else n) s.arms) 1001 := by cases s; rw [tkS]; rfl
theorem tkL_ok {g : Int → Int} (hg : GOk g) {l : List FS} (hl : Small l) : ∀ n : Int, 0 ≤ n → n ≤ 1001 → 0 ≤ tkL g n l ∧ tkL g n l ≤ 1001 := by
 induction hl with
 | mk l h1 h2 h3 ih =>
  clear h1 h2 h3
  induction l with
  | nil => intro n h0 h1; rw [tkL]; exact ⟨h0, h1⟩
  | cons s r ihr =>
   intro n h0 h1
   rw [tkL]
   have hA : ∀ (q : List (Int × List FS)) (n : Int), (∀ a ∈ q, a ∈ s.arms) → 0 ≤ n → 0 ≤ tkA g n q := by
    intro q
    induction q with
    | nil => intro n _ h; rw [tkA]; exact h
    | cons a q ihq =>
     intro n hq h
     rw [tkA]
     have := ih s (by simp) a (hq a (by simp)) 0 (by omega) (by omega)
     rw [tkP_eq]
     exact ihq _ (fun b hb => hq b (by simp [hb])) (by omega)
   have hs : 0 ≤ tkS g n s ∧ tkS g n s ≤ 1001 := by
    rw [tkS_eq]
    have h3 := hg s.fn
    have := hA s.arms (if s.op = 3 then n + g s.fn else n) (fun a h => h) (by split <;> omega)
    omega
   exact ihr (fun s' hs' => ih s' (by simp [hs'])) _ hs.1 hs.2
theorem tk_tak {g : Int → Int} (hg : GOk g) {l : List FS} (hl : Small l) : ∀ n : Int, 0 ≤ n → min (tkL g n l) 1000 = takL g (min n 1000) l := by
 induction hl with
 | mk l h1 h2 h3 ih =>
  have h3' := h3
  clear h1 h2
  induction l with
  | nil => intro n h0; rw [tkL, takL]
  | cons s r ihr =>
   intro n h0
   rw [tkL, takL]
   have hA : ∀ (q : List (Int × List FS)) (n m : Int), (∀ a ∈ q, a ∈ s.arms) → 0 ≤ n → 0 ≤ m → min n 1000 = min m 1000 → 0 ≤ tkA g n q ∧ 0 ≤ takA g m q ∧ min (tkA g n q) 1000 = min (takA g m q) 1000 := by
    intro q
    induction q with
    | nil => intro n m _ h h' e; rw [tkA, takA]; exact ⟨h, h', e⟩
    | cons a q ihq =>
     intro n m hq h h' e
     rw [tkA, takA, tkP_eq, takP_eq]
     have hi := ih s (by simp) a (hq a (by simp)) 0 (by omega)
     have hk := tkL_ok hg (h3' s (by simp) a (hq a (by simp))) 0 (by omega) (by omega)
     rw [show min (0 : Int) 1000 = 0 by omega] at hi
     rw [← hi]
     exact ihq _ _ (fun b hb => hq b (by simp [hb])) (by omega) (by omega) (by omega)
   have hs : 0 ≤ tkS g n s ∧ min (tkS g n s) 1000 = takS g (min n 1000) s := by
    rw [tkS_eq, takS_eq]
    have h4 := hg s.fn
    obtain ⟨x1, x2, x3⟩ := hA s.arms (if s.op = 3 then n + g s.fn else n) (if s.op = 3 then min n 1000 + g s.fn else min n 1000) (fun a h => h) (by split <;> omega) (by split <;> omega) (by split <;> omega)
    omega
   rw [← hs.2]
   exact ihr (fun s' hs' => h3' s' (by simp [hs'])) (fun s' hs' => ih s' (by simp [hs'])) (fun s' hs' => h3' s' (by simp [hs'])) _ hs.1
def RTakesSays (l : List FS) : Prop := ∀ (ts : List Int) (w : World) (A : Option Addr) (c : Nat) (B : Option Addr) (cB : Nat), kFS.C w A l.length l → (Kd.int .i64).C w B ts.length ts → WsOk ts → badL ts.length l = false →
 Calls Tryz.prog 70 #[.slice A l.length c, .slice B ts.length cB] w fun e w' => e = .returned (.int .i64 (tkL (rd0 ts) 0 l)) ∧ Below w.heap.size w w'
set_option maxHeartbeats 4000000 in
theorem rtakes_calls : ∀ (l : List FS), Small l → RTakesSays l := by
 intro l hl
 induction hl with
 | mk l h1 h2 h3 ih =>
  intro ts w A c B cB hC hT hW hb
  have hmax : l.length ≤ 9223372036854775807 := hC.2.1
  have HI := Aside0.mk ih
  have HC := Aside0.mk hC
  have HT := Aside0.mk hT
  have HW := Aside0.mk hW
  have HBD := Aside0.mk hb
  have HAR := Aside0.mk h2
  have HSU := Aside0.mk h3
  clear h1 h2 h3 ih hC hT hW hb
  go_enter Tryz.func70, Tryz.ntmps70
  go_wp2_with fail
  go_loopg [5, 6] l.length (fun gg s5 s6 wr => ∃ (kk : Nat) (cur : Int), kk ≤ l.length ∧ l.length - kk ≤ gg ∧ s6 = .int .i64 kk ∧ s5 = .int .i64 cur ∧ Aside0 (Below w.heap.size w wr) ∧ Aside0 (0 ≤ cur ∧ cur ≤ 1001) ∧ Aside0 (tkL (rd0 ts) cur (l.drop kk) = tkL (rd0 ts) 0 l))
  case atStart => exact ⟨0, 0, Nat.zero_le _, by omega, rfl, rfl, ⟨Below.refl _ _⟩, ⟨by omega⟩, ⟨rfl⟩⟩
  case round =>
   obtain ⟨kk, cur, hkk, hg, rfl, rfl, HB, HR, HS⟩ := hrel
   by_cases hlt : kk < l.length
   ·have hltz : (kk : Int) < (l.length : Int) := by omega
    have HM := Aside0.mk (getD_mem hlt zFS)
    have HS1 := Aside0.mk (show tkL (rd0 ts) (tkS (rd0 ts) cur (l.getD kk zFS)) (l.drop (kk + 1)) = tkL (rd0 ts) 0 l by rw [← HS.out, drop_getD l kk hlt zFS, tkL])
    clear HS
    obtain ⟨ead, ecs, rfl, _, eK, ecc⟩ := Kd.C_get HC.out zFS (kk : Int) (by omega) (by omega)
    have eK' := eK
    obtain ⟨eA4, ec4, eA8, ec8, eA9, ec9, eA6, ec6, eA7, ec7, rfl, el4, eg4, el8, eg8, el9, eg9, el6, eg6, el7, eg7⟩ := kFS_openV eK'
    have ex0 := ((Below.refl w.heap.size w).cell (World.block_lt_of_cell? w _ (ecc 0 _ rfl))).trans (ecc 0 _ rfl)
    have ex1 := ((Below.refl w.heap.size w).cell (World.block_lt_of_cell? w _ (ecc 1 _ rfl))).trans (ecc 1 _ rfl)
    have ex2 := ((Below.refl w.heap.size w).cell (World.block_lt_of_cell? w _ (ecc 2 _ rfl))).trans (ecc 2 _ rfl)
    have ex3 := ((Below.refl w.heap.size w).cell (World.block_lt_of_cell? w _ (ecc 3 _ rfl))).trans (ecc 3 _ rfl)
    have ex4 := ((Below.refl w.heap.size w).cell (World.block_lt_of_cell? w _ (ecc 4 _ rfl))).trans (ecc 4 _ rfl)
    have ex5 := ((Below.refl w.heap.size w).cell (World.block_lt_of_cell? w _ (ecc 5 _ rfl))).trans (ecc 5 _ rfl)
    have ex6 := ((Below.refl w.heap.size w).cell (World.block_lt_of_cell? w _ (ecc 6 _ rfl))).trans (ecc 6 _ rfl)
    have ex7 := ((Below.refl w.heap.size w).cell (World.block_lt_of_cell? w _ (ecc 7 _ rfl))).trans (ecc 7 _ rfl)
    have ex8 := ((Below.refl w.heap.size w).cell (World.block_lt_of_cell? w _ (ecc 8 _ rfl))).trans (ecc 8 _ rfl)
    have ex9 := ((Below.refl w.heap.size w).cell (World.block_lt_of_cell? w _ (ecc 9 _ rfl))).trans (ecc 9 _ rfl)
    have ex10 := ((Below.refl w.heap.size w).cell (World.block_lt_of_cell? w _ (ecc 10 _ rfl))).trans (ecc 10 _ rfl)
    have ex11 := ((Below.refl w.heap.size w).cell (World.block_lt_of_cell? w _ (ecc 11 _ rfl))).trans (ecc 11 _ rfl)
    rw [show (kFS).sz = 12 from rfl, Nat.add_zero, Int.toNat_natCast] at ex0
    rw [show (kFS).sz = 12 from rfl, Int.toNat_natCast, add_field _ _ 1 (by omega)] at ex1
    rw [show (kFS).sz = 12 from rfl, Int.toNat_natCast, add_field _ _ 2 (by omega)] at ex2
    rw [show (kFS).sz = 12 from rfl, Int.toNat_natCast, add_field _ _ 3 (by omega)] at ex3
    rw [show (kFS).sz = 12 from rfl, Int.toNat_natCast, add_field _ _ 4 (by omega)] at ex4
    rw [show (kFS).sz = 12 from rfl, Int.toNat_natCast, add_field _ _ 5 (by omega)] at ex5
    rw [show (kFS).sz = 12 from rfl, Int.toNat_natCast, add_field _ _ 6 (by omega)] at ex6
    rw [show (kFS).sz = 12 from rfl, Int.toNat_natCast, add_field _ _ 7 (by omega)] at ex7
    rw [show (kFS).sz = 12 from rfl, Int.toNat_natCast, add_field _ _ 8 (by omega)] at ex8
    rw [show (kFS).sz = 12 from rfl, Int.toNat_natCast, add_field _ _ 9 (by omega)] at ex9
    rw [show (kFS).sz = 12 from rfl, Int.toNat_natCast, add_field _ _ 10 (by omega)] at ex10
    rw [show (kFS).sz = 12 from rfl, Int.toNat_natCast, add_field _ _ 11 (by omega)] at ex11
    clear ecc
    try simp only [Int.toNat_natCast] at ex0 ex1 ex2 ex3 ex4 ex5 ex6 ex7 ex8 ex9 ex10 ex11 eK el4 eg4 el8 eg8 el9 eg9 el6 eg6 el7 eg7
    generalize Ys0 : l.getD kk zFS = s at ex0 ex1 ex2 ex3 ex4 ex5 ex6 ex7 ex8 ex9 ex10 ex11 eK el4 eg4 el8 eg8 el9 eg9 el6 eg6 el7 eg7
    have Ys := Aside0.mk Ys0; clear Ys0
    rw [Ys.out] at HS1 HM
    have eL4 := Aside0.mk el4; have eG4 := Aside0.mk eg4; clear el4 eg4
    have eL8 := Aside0.mk el8; have eG8 := Aside0.mk eg8; clear el8 eg8
    have eL9 := Aside0.mk el9; have eG9 := Aside0.mk eg9; clear el9 eg9
    have eL6 := Aside0.mk el6; have eG6 := Aside0.mk eg6; clear el6 eg6
    have eL7 := Aside0.mk el7; have eG7 := Aside0.mk eg7; clear el7 eg7
    clear eK
    have E0 := Aside0.mk ex0; have E3 := Aside0.mk ex3; have E11 := Aside0.mk ex11
    clear ex0 ex1 ex2 ex3 ex4 ex5 ex6 ex7 ex8 ex9 ex10 ex11
    have HBS := Aside0.mk (badL_mem HBD.out HM.out)
    have HAL := Aside0.mk (HAR.out s HM.out)
    have HSB := Aside0.mk (HSU.out s HM.out)
    have HIS := Aside0.mk (HI.out s HM.out)
    have x0 := (HB.out.cell (World.block_lt_of_cell? w _ E0.out)).trans E0.out
    by_cases h3 : s.op = 3
    ·have y3 : (s.op == (3 : Int)) = true := by rw [h3]; rfl
     have hfn := badS_fn HBS.out h3
     have HN := Aside0.mk (show tkS (rd0 ts) cur s = min (tkA (rd0 ts) (cur + rd0 ts s.fn) s.arms) 1001 by rw [tkS_eq, if_pos h3])
     have HN1 := Aside0.mk (show 0 ≤ cur + rd0 ts s.fn ∧ cur + rd0 ts s.fn ≤ 2002 by have := HR.out; have := (HW.out).g s.fn; omega)
     clear h3
     have hf0 := hfn.1
     have hf1 := hfn.2
     clear hfn
     have x3 := (HB.out.cell (World.block_lt_of_cell? w _ E3.out)).trans E3.out
     obtain ⟨tad, tcs, rfl, _, tK, tcc⟩ := Kd.C_get HT.out (0 : Int) s.fn (by omega) (by omega)
     obtain rfl := tK
     have tx0 := (HB.out.cell (World.block_lt_of_cell? w _ (tcc 0 _ rfl))).trans (tcc 0 _ rfl)
     simp only [show (Kd.int .i64).sz = 1 from rfl, Nat.mul_one, Nat.add_zero] at tx0
     clear tcc
     generalize Yt0 : ts.getD s.fn.toNat (0 : Int) = t at tx0
     have Yt := Aside0.mk Yt0; clear Yt0
     have Yt2 := Aside0.mk (show rd0 ts s.fn = t from Yt.out)
     rw [Yt2.out] at HN HN1
     have hw0 : wrap64 (cur + t) = cur + t := by have := HN1.out; unfold wrap64; omega
     go_wp2_with fail
     try (rw [hw0]; clear hw0)
     clear x3 tx0
     clear x0
     have HJ0 := Aside0.mk (show 0 ≤ (cur + t) ∧ (cur + t) ≤ 2002 from HN1.out)
     have haml : s.arms.length ≤ 8796093022208 := HAL.out
     go_loopg [5, 7] s.arms.length (fun gg s5 s7 wr => ∃ (jj : Nat) (cu : Int), jj ≤ s.arms.length ∧ s.arms.length - jj ≤ gg ∧ s7 = .int .i64 jj ∧ s5 = .int .i64 cu ∧ Aside0 (Below w.heap.size w wr) ∧ Aside0 (0 ≤ cu ∧ cu ≤ 2002 + 1001 * (jj : Int)) ∧ Aside0 (tkA (rd0 ts) cu (s.arms.drop jj) = tkA (rd0 ts) (cur + t) s.arms))
     case atStart => exact ⟨0, (cur + t), Nat.zero_le _, by omega, rfl, rfl, HB, ⟨by have := HN1.out; omega⟩, ⟨rfl⟩⟩
     case round =>
      clear HB HJ0
      obtain ⟨jj, cu, hjj, hgj, rfl, rfl, HB, HJ, HA⟩ := hrel
      have x11 := (HB.out.cell (World.block_lt_of_cell? w _ E11.out)).trans E11.out
      by_cases hltj : jj < s.arms.length
      ·have hltzj : (jj : Int) < (s.arms.length : Int) := by omega
       have HMA := Aside0.mk (getD_mem hltj zFA)
       have HA1 := Aside0.mk (show tkA (rd0 ts) (cu + tkP (rd0 ts) (s.arms.getD jj zFA)) (s.arms.drop (jj + 1)) = tkA (rd0 ts) (cur + t) s.arms by rw [← HA.out, drop_getD s.arms jj hltj zFA, tkA])
       clear HA
       obtain ⟨fad, fcs, rfl, _, fK, fcc⟩ := Kd.C_get eG7.out zFA (jj : Int) (by omega) (by omega)
       have fK' := fK
       obtain ⟨fA1, fc1, rfl, fl1, fg1⟩ := kFA_open fK'
       have fx0 := (HB.out.cell (World.block_lt_of_cell? w _ (fcc 0 _ rfl))).trans (fcc 0 _ rfl)
       have fx1 := (HB.out.cell (World.block_lt_of_cell? w _ (fcc 1 _ rfl))).trans (fcc 1 _ rfl)
       rw [show (kFA).sz = 2 from rfl, Nat.add_zero, Int.toNat_natCast] at fx0
       rw [show (kFA).sz = 2 from rfl, Int.toNat_natCast, add_field _ _ 1 (by omega)] at fx1
       clear fcc
       try simp only [Int.toNat_natCast] at fx0 fx1 fK fl1 fg1
       generalize Ya0 : s.arms.getD jj zFA = a at fx0 fx1 fK fl1 fg1
       have Ya := Aside0.mk Ya0; clear Ya0
       rw [Ya.out] at HA1 HMA
       have fL1 := Aside0.mk fl1; have fG1 := Aside0.mk fg1; clear fl1 fg1
       clear fK
       have HP0 := Aside0.mk (show 0 ≤ tkL (rd0 ts) 0 a.2 ∧ tkL (rd0 ts) 0 a.2 ≤ 1001 from tkL_ok (HW.out).g (HSB.out a HMA.out) 0 (by omega) (by omega))
       have hcall := fun (W : World) (hB : Below w.heap.size w W) => HIS.out a HMA.out ts W fA1 fc1 _ cB (Kd.C_below fG1.out hB) (Kd.C_below HT.out hB) HW.out (badS_arm HBS.out HMA.out)
       rw [tkP_eq] at HA1
       generalize tkL (rd0 ts) 0 a.2 = r at HP0 HA1 hcall
       have hw1 : wrap64 (cu + r) = cu + r := by have := HJ.out; have := HP0.out; unfold wrap64; omega
       go_wp2_with fail
       refine (hcall _ HB.out).mono ?_
       rintro e w7 ⟨rfl, hb⟩
       replace HB := Aside0.mk (below_step HB.out hb)
       clear hb x11 fx0 fx1 hcall
       go_wp2_with fail
       go_roundg (s.arms.length - (jj + 1))
       case measure => omega
       case rel => exact ⟨jj + 1, cu + r, by omega, by omega, by go_num, by first | rfl | (rw [hw1]), HB, ⟨by have := HJ.out; have := HP0.out; omega⟩, HA1⟩
      ·have hltzj : ¬ (jj : Int) < (s.arms.length : Int) := by omega
       obtain rfl : jj = s.arms.length := by omega
       have HE := Aside0.mk (show tkS (rd0 ts) cur s = min cu 1001 by have h := HA.out; rw [List.drop_length, tkA] at h; rw [HN.out, h])
       rw [HE.out] at HS1
       have HX := Aside0.mk (show 0 ≤ min cu 1001 ∧ min cu 1001 ≤ 1001 by have := HJ.out; omega)
       clear HA hgj hjj
       go_wp2_with fail
       go_roundg (l.length - (kk + 1))
       case measure => omega
       case rel => exact ⟨kk + 1, min cu 1001, by omega, by omega, by go_num, by first | rfl | go_num, HB, HX, HS1⟩
    ·have y3 : (s.op == (3 : Int)) = false := beq_eq_false_iff_ne.2 h3
     have HN := Aside0.mk (show tkS (rd0 ts) cur s = min (tkA (rd0 ts) cur s.arms) 1001 by rw [tkS_eq, if_neg h3])
     have HN1 := Aside0.mk (show 0 ≤ cur ∧ cur ≤ 2002 by have := HR.out; omega)
     clear h3
     go_wp2_with fail
     clear x0
     have HJ0 := Aside0.mk (show 0 ≤ cur ∧ cur ≤ 2002 from HN1.out)
     have haml : s.arms.length ≤ 8796093022208 := HAL.out
     go_loopg [5, 7] s.arms.length (fun gg s5 s7 wr => ∃ (jj : Nat) (cu : Int), jj ≤ s.arms.length ∧ s.arms.length - jj ≤ gg ∧ s7 = .int .i64 jj ∧ s5 = .int .i64 cu ∧ Aside0 (Below w.heap.size w wr) ∧ Aside0 (0 ≤ cu ∧ cu ≤ 2002 + 1001 * (jj : Int)) ∧ Aside0 (tkA (rd0 ts) cu (s.arms.drop jj) = tkA (rd0 ts) cur s.arms))
     case atStart => exact ⟨0, cur, Nat.zero_le _, by omega, rfl, rfl, HB, ⟨by have := HN1.out; omega⟩, ⟨rfl⟩⟩
     case round =>
      clear HB HJ0
      obtain ⟨jj, cu, hjj, hgj, rfl, rfl, HB, HJ, HA⟩ := hrel
      have x11 := (HB.out.cell (World.block_lt_of_cell? w _ E11.out)).trans E11.out
      by_cases hltj : jj < s.arms.length
      ·have hltzj : (jj : Int) < (s.arms.length : Int) := by omega
       have HMA := Aside0.mk (getD_mem hltj zFA)
       have HA1 := Aside0.mk (show tkA (rd0 ts) (cu + tkP (rd0 ts) (s.arms.getD jj zFA)) (s.arms.drop (jj + 1)) = tkA (rd0 ts) cur s.arms by rw [← HA.out, drop_getD s.arms jj hltj zFA, tkA])
       clear HA
       obtain ⟨fad, fcs, rfl, _, fK, fcc⟩ := Kd.C_get eG7.out zFA (jj : Int) (by omega) (by omega)
       have fK' := fK
       obtain ⟨fA1, fc1, rfl, fl1, fg1⟩ := kFA_open fK'
       have fx0 := (HB.out.cell (World.block_lt_of_cell? w _ (fcc 0 _ rfl))).trans (fcc 0 _ rfl)
       have fx1 := (HB.out.cell (World.block_lt_of_cell? w _ (fcc 1 _ rfl))).trans (fcc 1 _ rfl)
       rw [show (kFA).sz = 2 from rfl, Nat.add_zero, Int.toNat_natCast] at fx0
       rw [show (kFA).sz = 2 from rfl, Int.toNat_natCast, add_field _ _ 1 (by omega)] at fx1
       clear fcc
       try simp only [Int.toNat_natCast] at fx0 fx1 fK fl1 fg1
       generalize Ya0 : s.arms.getD jj zFA = a at fx0 fx1 fK fl1 fg1
       have Ya := Aside0.mk Ya0; clear Ya0
       rw [Ya.out] at HA1 HMA
       have fL1 := Aside0.mk fl1; have fG1 := Aside0.mk fg1; clear fl1 fg1
       clear fK
       have HP0 := Aside0.mk (show 0 ≤ tkL (rd0 ts) 0 a.2 ∧ tkL (rd0 ts) 0 a.2 ≤ 1001 from tkL_ok (HW.out).g (HSB.out a HMA.out) 0 (by omega) (by omega))
       have hcall := fun (W : World) (hB : Below w.heap.size w W) => HIS.out a HMA.out ts W fA1 fc1 _ cB (Kd.C_below fG1.out hB) (Kd.C_below HT.out hB) HW.out (badS_arm HBS.out HMA.out)
       rw [tkP_eq] at HA1
       generalize tkL (rd0 ts) 0 a.2 = r at HP0 HA1 hcall
       have hw1 : wrap64 (cu + r) = cu + r := by have := HJ.out; have := HP0.out; unfold wrap64; omega
       go_wp2_with fail
       refine (hcall _ HB.out).mono ?_
       rintro e w7 ⟨rfl, hb⟩
       replace HB := Aside0.mk (below_step HB.out hb)
       clear hb x11 fx0 fx1 hcall
       go_wp2_with fail
       go_roundg (s.arms.length - (jj + 1))
       case measure => omega
       case rel => exact ⟨jj + 1, cu + r, by omega, by omega, by go_num, by first | rfl | (rw [hw1]), HB, ⟨by have := HJ.out; have := HP0.out; omega⟩, HA1⟩
      ·have hltzj : ¬ (jj : Int) < (s.arms.length : Int) := by omega
       obtain rfl : jj = s.arms.length := by omega
       have HE := Aside0.mk (show tkS (rd0 ts) cur s = min cu 1001 by have h := HA.out; rw [List.drop_length, tkA] at h; rw [HN.out, h])
       rw [HE.out] at HS1
       have HX := Aside0.mk (show 0 ≤ min cu 1001 ∧ min cu 1001 ≤ 1001 by have := HJ.out; omega)
       clear HA hgj hjj
       go_wp2_with fail
       go_roundg (l.length - (kk + 1))
       case measure => omega
       case rel => exact ⟨kk + 1, min cu 1001, by omega, by omega, by go_num, by first | rfl | go_num, HB, HX, HS1⟩
   ·have hltz : ¬ (kk : Int) < (l.length : Int) := by omega
    obtain rfl : kk = l.length := by omega
    have HE := Aside0.mk (show cur = tkL (rd0 ts) 0 l by have h := HS.out; rw [List.drop_length, tkL] at h; exact h)
    go_wp2_with fail
    go_ret
    exact ⟨by rw [← HE.out]; rfl, HB.out⟩
end Go.Proofs.YticndoihkfbpoaaGreatDoor
