/- Proved: for every text, what scan says of names, constructors and words is what the reference says, and no text is two of them. No condition beside the form's own reach. -/
import Derived.Test.YtffeikfffmonkaaDoorScanP
import Derived.Test.YtffeikfffmonkaaDoorPScanx11
namespace Go.Proofs.YtffeikfffmonkaaDoor
open Go Go.RowKit Go.Lib Go.Proofs.YtffeikfffmonkaaDoorW.PrintWords Go.Proofs.YtffeikfffmonkaaDoorW.PrintMore
set_option linter.unusedSimpArgs false
theorem pureNames : PScan.pendulelaw01_ScanNames.Pure := by
  intro s hs
  refine ⟨s.size + 23, ?_⟩
  unfold PScan.pendulelaw01_ScanNames.f
  have hN : PScan.scan_IsName.f s = some (isNameB s) := by unfold PScan.scan_IsName.f; rw [if_pos (by omega)]
  have hC : PScan.scan_IsCon.f s = some (isConB s) := by unfold PScan.scan_IsCon.f; rw [if_pos (by omega)]
  rw [hN, hC, isWord_eq s _ (by omega), refName_eq s hs _ (by omega), refCon_eq s hs _ (by omega), refWord_eq s _ (by omega)]
  simp only [PScan.pendulelaw01_lives.f, Option.bind_some, if_true, beq_self_eq_true]
  cases hn : isNameB s with
  | true => simp [name_not_con s hn, name_not_word s hn]
  | false =>
    cases hw : isWordB s with
    | true => simp [word_not_con s hw]
    | false => cases isConB s <;> simp
end Go.Proofs.YtffeikfffmonkaaDoor
