/- The contract of the scan laws' 'lives': it answers true. -/
import Derived.Test.YtffeikfffmonkaaDoorScanH
import Derived.Test.YtffeikfffmonkaaDoorPScanx2
import Derived.Test.YtffeikfffmonkaaDoorPScanx1
namespace Go.Proofs.YtffeikfffmonkaaDoor.PScan
open Go Go.RowKit Go.Lib Go.Proofs.YtffeikfffmonkaaDoorW.PrintWords
set_option maxRecDepth 100000
set_option linter.unusedSimpArgs false
set_option linter.unusedVariables false
def livesText : ByteArray := ⟨#[120, 49, 32, 61, 32, 51, 32, 102, 98, 121, 32, 121, 32, 45, 45, 32, 110, 111, 116, 101]⟩
def livesToks : List S32 := [⟨1, ⟨#[120, 49]⟩, 0, 1, 1⟩, ⟨4, ⟨#[61]⟩, 0, 1, 4⟩, ⟨3, ⟨#[51]⟩, 3, 1, 6⟩, ⟨5, ⟨#[102, 98, 121]⟩, 0, 1, 8⟩, ⟨1, ⟨#[121]⟩, 0, 1, 12⟩, ⟨6, ⟨#[]⟩, 0, 1, 21⟩]
theorem lives_scan : scan_Scan.f 30 livesText = some (livesToks, 0, 0, 0) := by kernel_rfl
def pendulelaw01_lives.f : Option Bool := some true
attribute [local go_sem high] eqA32 eqA26
set_option maxHeartbeats 1000000 in
theorem pendulelaw01_lives.calls (r : Bool) (w : World) (h : pendulelaw01_lives.f = some r) (hL : Laid w) :
    Calls Tryd.prog 9 #[] w fun e w' => e = .returned (.bool r) ∧ Below w.heap.size w w' := by
  obtain rfl := Option.some.inj h
  have HS := fun W (hl : Laid W) => scan_Scan.calls 30 livesText livesToks 0 0 0 W lives_scan hl
  unfold livesText at HS
  have HL := Aside0.mk hL
  clear hL h
  go_enter Tryd.func9, Tryd.ntmps9
  go_wp2_with fail
  refine (HS _ HL.out).mono ?_
  rintro e w1 ⟨v, rfl, hR, hb⟩
  obtain ⟨A, c, rfl, hc, hC⟩ := Kd.R_reads hR
  obtain ⟨ad, rfl, a0, a1, a2, a3, a4⟩ := at_T32 hC 2 (by omega) (by decide)
  obtain ⟨ad', e5, b0, b1, b2, b3, b4⟩ := at_T32 hC 5 (by omega) (by decide)
  obtain rfl : ad = ad' := by injection e5
  obtain ⟨g, rfl⟩ : ∃ g, ad = ⟨g, 0, none⟩ := by
    obtain ⟨_, inner, hown, _⟩ := hR
    rcases hown.2 with ⟨h1, _⟩ | ⟨g, cap, cur, h1, _⟩
    · injection h1 with h1; cases h1
    · injection h1 with h1; injection h1 with h1; exact ⟨g, h1⟩
  have hlt : g < w1.heap.size := Kd.R_lt hR g rfl
  rw [show (⟨g, 0, none⟩ : Addr).add (Int.toNat 2 * 5) = ⟨g, 10, none⟩ from add_plain g 10] at a0 a1 a2 a3 a4
  rw [show (⟨g, 0, none⟩ : Addr).add (Int.toNat 5 * 5) = ⟨g, 25, none⟩ from add_plain g 25] at b0
  rw [show livesToks.length = 6 from rfl] at hc ⊢
  have A0 : w1.cell? ⟨g, 10, none⟩ = some (.int .i64 3) := a0
  have A1 : w1.cell? ⟨g, 11, none⟩ = some (.string ⟨#[51]⟩) := a1
  have A2 : w1.cell? ⟨g, 12, none⟩ = some (.int .i64 3) := a2
  have A3 : w1.cell? ⟨g, 13, none⟩ = some (.int .i64 1) := a3
  have A4 : w1.cell? ⟨g, 14, none⟩ = some (.int .i64 6) := a4
  have B0 : w1.cell? ⟨g, 25, none⟩ = some (.int .i64 6) := b0
  have HB := Aside0.mk hb
  clear HS HL hR hb hC e5 a0 a1 a2 a3 a4 b0 b1 b2 b3 b4
  go_wp2_with fail
  go_ret
  exact ⟨rfl, below_alloc HB.out _⟩
end Go.Proofs.YtffeikfffmonkaaDoor.PScan
