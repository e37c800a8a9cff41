/- Contracts of package scan: blanks; and what the token's text is. -/
import Derived.Test.YtffeikfffmonkaaDoorScanD
import Derived.Test.YtffeikfffmonkaaDoorPScanx3
namespace Go.Proofs.YtffeikfffmonkaaDoor
open Go Go.RowKit Go.Lib Go.Proofs.YtffeikfffmonkaaDoorW.PrintWords Go.Proofs.YtffeikfffmonkaaDoorW.PrintMore
set_option maxRecDepth 100000
set_option linter.unusedSimpArgs false
set_option linter.unusedVariables false

def blankB (b : Int) : Bool := b == 32 || (b == 9 || (b == 10 || b == 13))
def lineB (b : Int) : Bool := b != 10

theorem blanks1_fn : ByteFn 41 blankB := by
  intro b w h0 h1
  by_cases c0 : b = 32
  · subst c0
    go_enter Tryd.func41, Tryd.ntmps41
    go_wp2
    go_ret
    exact ⟨rfl, Drawn0.refl _⟩
  · have d0 : (b == 32) = false := beq_eq_false_iff_ne.2 c0
    by_cases c1 : b = 9
    · subst c1
      go_enter Tryd.func41, Tryd.ntmps41
      go_wp2
      go_ret
      exact ⟨rfl, Drawn0.refl _⟩
    · have d1 : (b == 9) = false := beq_eq_false_iff_ne.2 c1
      by_cases c2 : b = 10
      · subst c2
        go_enter Tryd.func41, Tryd.ntmps41
        go_wp2
        go_ret
        exact ⟨rfl, Drawn0.refl _⟩
      · have d2 : (b == 10) = false := beq_eq_false_iff_ne.2 c2
        have hf : blankB b = (b == 13) := by simp [blankB, d0, d1, d2]
        have HF := Lib.hid hf
        clear hf c0 c1 c2
        go_enter Tryd.func41, Tryd.ntmps41
        go_wp2
        go_ret
        exact ⟨by rw [HF.out]; rfl, Drawn0.refl _⟩

theorem blanks2_fn : ByteFn 43 lineB := by
  intro b w h0 h1
  unfold lineB
  go_enter Tryd.func43, Tryd.ntmps43
  go_wp2
  go_ret
  exact ⟨rfl, Drawn0.refl _⟩

theorem blanks1_eg : ∀ args w, (callFunc 41 args).run Tryd.prog w = .ok (.enter 41 args) w := enters_of Tryd.func41 (by kernel_rfl) rfl
theorem blanks2_eg : ∀ args w, (callFunc 43 args).run Tryd.prog w = .ok (.enter 43 args) w := enters_of Tryd.func43 (by kernel_rfl) rfl

/-- How many bytes of blanks, or else of a note, a text begins with. -/
def gapStep (s : ByteArray) : Nat := if spanN blankB s = 0 ∧ Lib.hasPrefix s.data.toList [45, 45] = true then spanN lineB s else spanN blankB s
theorem gapStep_le (s : ByteArray) : gapStep s ≤ s.size := by unfold gapStep; split <;> exact spanN_le _ _

namespace PScan
def scan_scanner_blanks.f : Nat → ByteArray → Int → Int → Int → Option (ByteArray × Int × Int × Int)
  | 0, _, _, _, _ => none
  | k + 1, t, a, l, c => if 0 ≤ a ∧ a ≤ t.size ∧ t.size ≤ 9223372036854775807 then (if gapStep (t.extract a.toNat t.size) = 0 then some (t, a, l, c) else (scan_scanner_skip.f k t a l c (gapStep (t.extract a.toNat t.size))).bind fun r => scan_scanner_blanks.f k r.1 r.2.1 r.2.2.1 r.2.2.2) else none
theorem scan_scanner_blanks.mono_f : ∀ k, ∀ t a l c, LeO (scan_scanner_blanks.f k t a l c) (scan_scanner_blanks.f (k + 1) t a l c)
  | 0 => fun _ _ _ _ r h => by simp [scan_scanner_blanks.f] at h
  | k + 1 => by
    have ih := scan_scanner_blanks.mono_f k
    intro t a l c
    rw [scan_scanner_blanks.f, scan_scanner_blanks.f]
    refine LeO.ite (LeO.ite (LeO.refl _) (LeO.bind (scan_scanner_skip.mono _ _ _ _ _ _) (fun r => ?_))) (LeO.none _)
    exact ih _ _ _ _
theorem scan_scanner_blanks.mono : ∀ t a l c k, LeO (scan_scanner_blanks.f k t a l c) (scan_scanner_blanks.f (k + 1) t a l c) := fun t a l c k => scan_scanner_blanks.mono_f k t a l c

theorem IsS38.drawn {w0 W W1 : World} {g : Nat} {f0 : ByteArray} {f1 f2 f3 : Int} (h : IsS38 w0 W g f0 f1 f2 f3) (hd : Drawn0 W W1) : IsS38 w0 W1 g f0 f1 f2 f3 := by
  obtain ⟨n, rfl⟩ := hd; exact h.drewN n

theorem scan_scanner_blanks.calls (k : Nat) (g : Nat) (s0 : ByteArray) (s1 s2 s3 : Int) (r1 : ByteArray) (r2 r3 r4 : Int) (w0 w : World) (hI : IsS38 w0 w g s0 s1 s2 s3) (hB : Below w0.heap.size w0 w) (h : scan_scanner_blanks.f k s0 s1 s2 s3 = some (r1, r2, r3, r4)) :
    Calls Tryd.prog 22 #[.pointer (some ⟨g, 0, none⟩)] w fun e w' => e = .returned (.tuple #[]) ∧ IsS38 w0 w' g r1 r2 r3 r4 ∧ Below w0.heap.size w0 w' ∧ KeepBut w w' g none := by
  have HI := Aside0.mk hI
  have HB := Aside0.mk hB
  have HH := Aside0.mk h
  have HK := Aside0.mk (KeepBut.refl w g none)
  clear hI hB h
  go_enter Tryd.func22, Tryd.ntmps22
  go_wp2_with fail
  go_loopg [2, 3] k (fun kq v2 v3 w' => ∃ (t : ByteArray) (a l c : Int), Aside0 (scan_scanner_blanks.f kq t a l c = some (r1, r2, r3, r4)) ∧ Aside0 (IsS38 w0 w' g t a l c) ∧ Aside0 (KeepBut w w' g none) ∧ Aside0 (Below w0.heap.size w0 w'))
  case atStart => exact ⟨s0, s1, s2, s3, HH, HI, HK, HB⟩
  case round =>
    clear HH HI HB HK
    obtain ⟨t, a, l, c, HA, HI, HK, HB⟩ := hrel
    cases gk with
    | zero => exact absurd HA.out (by simp [scan_scanner_blanks.f])
    | succ k1 =>
      have H := HA.out
      clear HA
      rw [scan_scanner_blanks.f] at H
      by_cases c0 : 0 ≤ a ∧ a ≤ t.size ∧ t.size ≤ 9223372036854775807
      · rw [if_pos c0] at H
        obtain ⟨c1, c2, c3⟩ := c0
        have hrest := scan_scanner_rest.calls g t a l c (t.extract a.toNat t.size) t a l c w0 wr HI.out HB.out (by unfold scan_scanner_rest.f; rw [if_pos c1, if_pos c2])
        have hsz : (t.extract a.toNat t.size).size ≤ 9223372036854775807 := by rw [ByteArray.size_extract]; omega
        have hgl := gapStep_le (t.extract a.toNat t.size)
        have Hg : gapStep (t.extract a.toNat t.size) = (if spanN blankB (t.extract a.toNat t.size) = 0 ∧ Lib.hasPrefix (t.extract a.toNat t.size).data.toList [45, 45] = true then spanN lineB (t.extract a.toNat t.size) else spanN blankB (t.extract a.toNat t.size)) := rfl
        generalize t.extract a.toNat t.size = rest at H hrest hsz hgl Hg
        have hs1 := fun W => span_calls 41 blankB blanks1_eg blanks1_fn rest W hsz
        have hs2 := fun W => span_calls 43 lineB blanks2_eg blanks2_fn rest W hsz
        have hl1 := spanN_le blankB rest
        have hl2 := spanN_le lineB rest
        have hP := fun W => Tryd.strings_HasPrefix rest ⟨#[45, 45]⟩ W
        generalize spanN blankB rest = n1 at hs1 hl1 Hg
        generalize spanN lineB rest = n2 at hs2 hl2 Hg
        generalize hgs : gapStep rest = gs at H hgl Hg
        clear hgs
        have HH := Lib.hid H
        have HG := Lib.hid Hg
        clear H Hg
        go_wp2_with fail
        refine hrest.mono ?_
        rintro e w1 ⟨rfl, hI1, hB1, hK1⟩
        have HI1 := Aside0.mk hI1
        have HB1 := Aside0.mk hB1
        have HK1 := Aside0.mk (HK.out.trans hK1 (.inl rfl))
        clear hI1 hB1 hK1 HI HB HK hrest
        go_wp2_with fail
        refine (hs1 _).mono ?_
        rintro e w2 ⟨rfl, ⟨m1, rfl⟩⟩
        by_cases e1 : n1 = 0
        · subst e1
          cases hq : Lib.hasPrefix rest.data.toList [45, 45] with
          | false =>
            have hgs : gs = 0 := by have := HG.out; rw [hq] at this; simpa using this
            simp only [hq] at hP
            clear HG hq hs1 hs2
            go_wp2_with (go_at_call 42; refine (hP _).mono ?_; rintro e w' ⟨rfl, rfl⟩)
            have H := HH.out
            rw [if_pos hgs] at H
            simp only [Option.some.injEq, Prod.mk.injEq] at H
            obtain ⟨rfl, rfl, rfl, rfl⟩ := H
            clear HH hgs
            first | go_end0 | ((try simp only [Exit.inBlock, Exit.then]); refine bodyPost_ret (results_none rfl _ _ _) rfl ?_)
            exact ⟨rfl, HI1.out.drewN m1, pw_below_drewN HB1.out m1, keep_drewN HK1.out m1⟩
          | true =>
            have hgs0 : gs = n2 := by have := HG.out; rw [hq] at this; simpa using this
            have HG0 := Lib.hid hgs0
            simp only [hq] at hP
            clear HG hq hs1 hgs0
            by_cases e2 : n2 = 0
            · subst e2
              go_wp2_with (first | (go_at_call 42; refine (hP _).mono ?_; rintro e w' ⟨rfl, rfl⟩) | (go_at_call 40; refine (hs2 _).mono ?_; rintro e w2 ⟨rfl, ⟨m2, rfl⟩⟩))
              have hgs := HG0.out
              have H := HH.out
              rw [if_pos hgs] at H
              simp only [Option.some.injEq, Prod.mk.injEq] at H
              obtain ⟨rfl, rfl, rfl, rfl⟩ := H
              clear HH hgs
              first | go_end0 | ((try simp only [Exit.inBlock, Exit.then]); refine bodyPost_ret (results_none rfl _ _ _) rfl ?_)
              exact ⟨rfl, HI1.out.drewN (m1 + m2), pw_below_drewN HB1.out (m1 + m2), keep_drewN HK1.out (m1 + m2)⟩
            · have d2 : ((n2 : Int) == 0) = false := beq_eq_false_iff_ne.2 (by omega)
              go_wp2_with (first | (go_at_call 42; refine (hP _).mono ?_; rintro e w' ⟨rfl, rfl⟩) | (go_at_call 40; refine (hs2 _).mono ?_; rintro e w2 ⟨rfl, ⟨m2, rfl⟩⟩))
              have hgs := HG0.out
              have H := HH.out
              rw [if_neg (by rw [hgs]; exact e2)] at H
              obtain ⟨⟨t', a', l', c'⟩, hsk, H⟩ := Option.bind_eq_some_iff.mp H
              simp only at H
              have hskip := scan_scanner_skip.calls k1 g t a l c gs t' a' l' c' w0 _ (HI1.out.drewN (m1 + m2)) (pw_below_drewN HB1.out (m1 + m2)) hsk
              rw [hgs] at hskip
              have HH2 := Aside0.mk H
              clear H HH hgs hsk
              refine hskip.mono ?_
              rintro e w3 ⟨rfl, hI3, hB3, hK3⟩
              have HI3 := Aside0.mk hI3
              have HB3 := Aside0.mk hB3
              have HK3 := Aside0.mk (HK1.out.trans ((keep_drewN (KeepBut.refl _ _ _) (m1 + m2)).trans hK3 (.inl rfl)) (.inl rfl))
              clear hI3 hB3 hK3 hskip HI1 HB1 HK1
              go_wp2_with fail
              go_roundg k1
              case measure => omega
              case rel => exact ⟨t', a', l', c', HH2, HI3, HK3, HB3⟩
        · have d1 : ((n1 : Int) == 0) = false := beq_eq_false_iff_ne.2 (by omega)
          have hgs : gs = n1 := by have := HG.out; rw [if_neg (by omega)] at this; exact this
          clear HG hs1 hs2 hP
          have H := HH.out
          rw [if_neg (by rw [hgs]; exact e1)] at H
          obtain ⟨⟨t', a', l', c'⟩, hsk, H⟩ := Option.bind_eq_some_iff.mp H
          simp only at H
          have hskip := scan_scanner_skip.calls k1 g t a l c gs t' a' l' c' w0 _ (HI1.out.drewN m1) (pw_below_drewN HB1.out m1) hsk
          rw [hgs] at hskip
          have HH2 := Aside0.mk H
          clear H HH hgs hsk
          go_wp2_with fail
          refine hskip.mono ?_
          rintro e w3 ⟨rfl, hI3, hB3, hK3⟩
          have HI3 := Aside0.mk hI3
          have HB3 := Aside0.mk hB3
          have HK3 := Aside0.mk (HK1.out.trans ((keep_drewN (KeepBut.refl _ _ _) m1).trans hK3 (.inl rfl)) (.inl rfl))
          clear hI3 hB3 hK3 hskip HI1 HB1 HK1
          go_wp2_with fail
          go_roundg k1
          case measure => omega
          case rel => exact ⟨t', a', l', c', HH2, HI3, HK3, HB3⟩
      · rw [if_neg c0] at H
        exact absurd H (by simp)
end PScan
end Go.Proofs.YtffeikfffmonkaaDoor
