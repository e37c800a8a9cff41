/- The contracts of package scan's IsName and IsCon, as the printed texts ask for them. -/
import Derived.Test.YtffeikfffmonkaaDoorScanB
namespace Go.Proofs.YtffeikfffmonkaaDoor.PScan
open Go Go.RowKit Go.Lib Go.Proofs.YtffeikfffmonkaaDoorW.PrintWords
def scan_IsName.f (s : ByteArray) : Option Bool := if s.size ≤ 9223372036854775807 then some (isNameB s) else none
theorem scan_IsName.calls (s : ByteArray) (r : Bool) (w : World) (h : scan_IsName.f s = some r) :
    Calls Tryd.prog 14 #[.string s] w fun e w' => e = .returned (.bool r) ∧ Below w.heap.size w w' := by
  unfold scan_IsName.f at h
  split at h
  · rename_i hs; obtain rfl := Option.some.inj h; exact isName_calls s w hs
  · exact absurd h (by simp)
def scan_IsCon.f (s : ByteArray) : Option Bool := if s.size ≤ 9223372036854775807 then some (isConB s) else none
theorem scan_IsCon.calls (s : ByteArray) (r : Bool) (w : World) (h : scan_IsCon.f s = some r) :
    Calls Tryd.prog 15 #[.string s] w fun e w' => e = .returned (.bool r) ∧ Drawn0 w w' := by
  unfold scan_IsCon.f at h
  split at h
  · rename_i hs; obtain rfl := Option.some.inj h; exact isCon_calls s w hs
  · exact absurd h (by simp)
end Go.Proofs.YtffeikfffmonkaaDoor.PScan
