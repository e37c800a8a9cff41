/-
  NARROWER THAN 'FOR EVERY INPUT', by the rows' own cells (each row's printed sentence says how): ScopeFirst: loops · ScopeVars: loops · ScopeMore: loops · ScopeFinds: loops.
  DERIVED. THE GIVEN ROWS OF THIS SEAT. 4 by the template 'for every input the law returns true; each argument reads behind the call as it read before'; 0 by the template 'total and deterministic' (their statements: YtcekbkbhaceilaaTotals.lean).
  GIVEN WITH THE SEED: the statements are not yours to turn. If you find one false, say at which input.
  Laid BY PROGRAM, IN A SANDBOX (cutbox-rows.mjs): the forced cells as the released guide's own fill.sh prints them over the translation 701c7e3c4ca7af64… (all of the seat's roots in one cut). By AI agents, Wed Nov 11 2026. No macro, syntax, notation, axiom, sorry.
-/
import Derived.Test.YtcekbkbhaceilaaChecked
import GoSem.Claim
import GoSem.ClaimJoined
import GoSem.ClaimMapViews
import Derived.JoinedTies
import Derived.KernelRfl
namespace Go.Proofs.Ytcekbkbhaceilaa
/- THE CELL 'sum', in the pinned program and in every row, IS THE sha256 OF THE DUMP (.gsa) THAT YtcekbkbhaceilaaProg.lean LOADS. Nothing in Lean hashes anything: it is a label: what it is worth is what the hold of that sum in a sandbox is worth. -/
noncomputable def Try.pinned : Pinned := { name := "ytcekbkbhaceilaa", sum := "701c7e3c4ca7af6477f64301e4c7280042dbfedd052593b5671510887f572e04", checked := Try.checked }
namespace Rows
def none {H : Type} : Left H := { results := [], args := [] }

/-- 'pendulelaw05.ScopeFirst': WHATEVER THE INPUT: true; the input reads as it did. -/
def scopeFirstSpec : ChangeSpec := { name := "scopeFirst", fn := fun _ => fun
  | [d1, d2] => { results := [.lit (.bool true)], args := [d1, d2] }
  | _ => none }
def scopeFirstRow : OpenClaim := { program := "ytcekbkbhaceilaa", sum := "701c7e3c4ca7af6477f64301e4c7280042dbfedd052593b5671510887f572e04", func := "pendule/pendulelaw05.ScopeFirst", spec := "scopeFirst", unfollowed := true, recurses := true, loops := true, apart := false }
def ScopeFirstSaid : Prop := scopeFirstRow.holds Try.pinned (OpenSpec.ofChange scopeFirstSpec)

/-- ITS FALSE NEIGHBOUR: 'it returns false'. Refute it at one input. -/
def scopeFirstWrong : ChangeSpec := { name := "scopeFirst", fn := fun _ => fun
  | [d1, d2] => { results := [.lit (.bool false)], args := [d1, d2] }
  | _ => none }
def ScopeFirstWrongFalsely : Prop := scopeFirstRow.holds Try.pinned (OpenSpec.ofChange scopeFirstWrong)

/-- 'pendulelaw05.ScopeVars': WHATEVER THE INPUT: true; the input reads as it did. -/
def scopeVarsSpec : ChangeSpec := { name := "scopeVars", fn := fun _ => fun
  | [d] => { results := [.lit (.bool true)], args := [d] }
  | _ => none }
def scopeVarsRow : OpenClaim := { program := "ytcekbkbhaceilaa", sum := "701c7e3c4ca7af6477f64301e4c7280042dbfedd052593b5671510887f572e04", func := "pendule/pendulelaw05.ScopeVars", spec := "scopeVars", unfollowed := true, recurses := true, loops := true, apart := false }
def ScopeVarsSaid : Prop := scopeVarsRow.holds Try.pinned (OpenSpec.ofChange scopeVarsSpec)

/-- ITS FALSE NEIGHBOUR: 'it returns false'. Refute it at one input. -/
def scopeVarsWrong : ChangeSpec := { name := "scopeVars", fn := fun _ => fun
  | [d] => { results := [.lit (.bool false)], args := [d] }
  | _ => none }
def ScopeVarsWrongFalsely : Prop := scopeVarsRow.holds Try.pinned (OpenSpec.ofChange scopeVarsWrong)

/-- 'pendulelaw05.ScopeMore': WHATEVER THE INPUT: true; the input reads as it did. -/
def scopeMoreSpec : ChangeSpec := { name := "scopeMore", fn := fun _ => fun
  | [d] => { results := [.lit (.bool true)], args := [d] }
  | _ => none }
def scopeMoreRow : OpenClaim := { program := "ytcekbkbhaceilaa", sum := "701c7e3c4ca7af6477f64301e4c7280042dbfedd052593b5671510887f572e04", func := "pendule/pendulelaw05.ScopeMore", spec := "scopeMore", unfollowed := true, recurses := true, loops := true, apart := false }
def ScopeMoreSaid : Prop := scopeMoreRow.holds Try.pinned (OpenSpec.ofChange scopeMoreSpec)

/-- ITS FALSE NEIGHBOUR: 'it returns false'. Refute it at one input. -/
def scopeMoreWrong : ChangeSpec := { name := "scopeMore", fn := fun _ => fun
  | [d] => { results := [.lit (.bool false)], args := [d] }
  | _ => none }
def ScopeMoreWrongFalsely : Prop := scopeMoreRow.holds Try.pinned (OpenSpec.ofChange scopeMoreWrong)

/-- 'pendulelaw05.ScopeFinds': WHATEVER THE INPUT: true; the input reads as it did. -/
def scopeFindsSpec : ChangeSpec := { name := "scopeFinds", fn := fun _ => fun
  | [d1, d2] => { results := [.lit (.bool true)], args := [d1, d2] }
  | _ => none }
def scopeFindsRow : OpenClaim := { program := "ytcekbkbhaceilaa", sum := "701c7e3c4ca7af6477f64301e4c7280042dbfedd052593b5671510887f572e04", func := "pendule/pendulelaw05.ScopeFinds", spec := "scopeFinds", unfollowed := true, recurses := true, loops := true, apart := false }
def ScopeFindsSaid : Prop := scopeFindsRow.holds Try.pinned (OpenSpec.ofChange scopeFindsSpec)

/-- ITS FALSE NEIGHBOUR: 'it returns false'. Refute it at one input. -/
def scopeFindsWrong : ChangeSpec := { name := "scopeFinds", fn := fun _ => fun
  | [d1, d2] => { results := [.lit (.bool false)], args := [d1, d2] }
  | _ => none }
def ScopeFindsWrongFalsely : Prop := scopeFindsRow.holds Try.pinned (OpenSpec.ofChange scopeFindsWrong)

/- THE SECOND FORM. 'bulk': how many values and letters a reading holds, each counted each time it is reached (what is shared counts as often as it is met; a slice's spare places count too). A statement '..UptoSaid' is the law's where the arguments, and the package variables that the reading takes, are together of bulk at most 1048576: NARROWER than '..Said'. Prove '..Said' where nothing that the law and all that it calls make is longer than what came in: it says more and counts as full. Else prove '..UptoSaid'. A law counts once. -/
mutual
def uptoBulk {H : Type} : DataW H → Nat
  | .lit (.string bytes) => bytes.length + 1
  | .lit _ => 1
  | .nil => 1
  | .ptr d => uptoBulk d + 1
  | .slice elems spare => uptoBulkAll elems + uptoBulkAll spare + 1
  | .agg parts => uptoBulkAll parts + 1
  | .iface _ d => uptoBulk d + 1
  | .map entries => uptoBulkEntries entries + 1
  | .held _ => 1
def uptoBulkAll {H : Type} : List (DataW H) → Nat
  | [] => 0
  | d :: r => uptoBulk d + uptoBulkAll r
def uptoBulkEntries {H : Type} : List (Lit × DataW H) → Nat
  | [] => 0
  | x :: r => uptoBulkEntry x + uptoBulkEntries r
def uptoBulkEntry {H : Type} : Lit × DataW H → Nat
  | (.string bytes, d) => bytes.length + uptoBulk d + 1
  | (_, d) => uptoBulk d + 1
 end
def uptoSmall : (H : Type) → List (DataW H) → Bool := fun _ ds => decide (uptoBulkAll ds ≤ 1048576)
def OpenSpec.upto (s : _root_.Go.ChangeSpec) : _root_.Go.OpenSpec := { _root_.Go.OpenSpec.ofChange s with cond := some uptoSmall }

/-- 'pendulelaw05.ScopeFirst', WHERE WHAT IT READS IS OF BULK AT MOST 1048576: true; the input reads as it did. -/
def scopeFirstUptoRow : OpenClaim := { program := "ytcekbkbhaceilaa", sum := "701c7e3c4ca7af6477f64301e4c7280042dbfedd052593b5671510887f572e04", func := "pendule/pendulelaw05.ScopeFirst", spec := "scopeFirst", unfollowed := true, recurses := true, loops := true, apart := false, narrowed := true }
def ScopeFirstUptoSaid : Prop := scopeFirstUptoRow.holds Try.pinned (OpenSpec.upto scopeFirstSpec)

/-- 'pendulelaw05.ScopeVars', WHERE WHAT IT READS IS OF BULK AT MOST 1048576: true; the input reads as it did. -/
def scopeVarsUptoRow : OpenClaim := { program := "ytcekbkbhaceilaa", sum := "701c7e3c4ca7af6477f64301e4c7280042dbfedd052593b5671510887f572e04", func := "pendule/pendulelaw05.ScopeVars", spec := "scopeVars", unfollowed := true, recurses := true, loops := true, apart := false, narrowed := true }
def ScopeVarsUptoSaid : Prop := scopeVarsUptoRow.holds Try.pinned (OpenSpec.upto scopeVarsSpec)

/-- 'pendulelaw05.ScopeMore', WHERE WHAT IT READS IS OF BULK AT MOST 1048576: true; the input reads as it did. -/
def scopeMoreUptoRow : OpenClaim := { program := "ytcekbkbhaceilaa", sum := "701c7e3c4ca7af6477f64301e4c7280042dbfedd052593b5671510887f572e04", func := "pendule/pendulelaw05.ScopeMore", spec := "scopeMore", unfollowed := true, recurses := true, loops := true, apart := false, narrowed := true }
def ScopeMoreUptoSaid : Prop := scopeMoreUptoRow.holds Try.pinned (OpenSpec.upto scopeMoreSpec)

/-- 'pendulelaw05.ScopeFinds', WHERE WHAT IT READS IS OF BULK AT MOST 1048576: true; the input reads as it did. -/
def scopeFindsUptoRow : OpenClaim := { program := "ytcekbkbhaceilaa", sum := "701c7e3c4ca7af6477f64301e4c7280042dbfedd052593b5671510887f572e04", func := "pendule/pendulelaw05.ScopeFinds", spec := "scopeFinds", unfollowed := true, recurses := true, loops := true, apart := false, narrowed := true }
def ScopeFindsUptoSaid : Prop := scopeFindsUptoRow.holds Try.pinned (OpenSpec.upto scopeFindsSpec)

end Rows
end Go.Proofs.Ytcekbkbhaceilaa
