/-
  NARROWER THAN 'FOR EVERY INPUT', by the rows' own cells (each row's printed sentence says how): ScopeFaults: loops · ScopeTwice: loops.
  DERIVED. THE GIVEN ROWS OF THIS SEAT. 2 by the template 'for every input the law returns true; each argument reads behind the call as it read before'; 0 by the template 'total and deterministic' (their statements: YtggfnbnochmkdaaGreatTotals.lean).
  GIVEN WITH THE SEED: the statements are not yours to turn. If you find one false, say at which input.
  Laid BY PROGRAM, IN A SANDBOX (cutbox-rows.mjs): the forced cells as the released guide's own fill.sh prints them over the translation f3463cbfa68bedee… (all of the seat's roots in one cut). By AI agents, Wed Nov 11 2026. No macro, syntax, notation, axiom, sorry.
-/
import Derived.Test.YtggfnbnochmkdaaGreatChecked
import GoSem.Claim
import GoSem.ClaimJoined
import GoSem.ClaimMapViews
import Derived.JoinedTies
import Derived.KernelRfl
namespace Go.Proofs.YtggfnbnochmkdaaGreat
/- THE CELL 'sum', in the pinned program and in every row, IS THE sha256 OF THE DUMP (.gsa) THAT YtggfnbnochmkdaaGreatProg.lean LOADS. Nothing in Lean hashes anything: it is a label: what it is worth is what the hold of that sum in a sandbox is worth. -/
noncomputable def Tryz.pinned : Pinned := { name := "ytggfnbnochmkdaagreat", sum := "f3463cbfa68bedeee759800fa5f438e4ca2cae3ce081d337400f9f514ef257ff", checked := Tryz.checked }
namespace Rows
def none {H : Type} : Left H := { results := [], args := [] }

/-- 'pendulelaw05.ScopeFaults': WHATEVER THE INPUT: true; the input reads as it did. -/
def scopeFaultsSpec : ChangeSpec := { name := "scopeFaults", fn := fun _ => fun
  | [d] => { results := [.lit (.bool true)], args := [d] }
  | _ => none }
def scopeFaultsRow : OpenClaim := { program := "ytggfnbnochmkdaagreat", sum := "f3463cbfa68bedeee759800fa5f438e4ca2cae3ce081d337400f9f514ef257ff", func := "pendule/pendulelaw05.ScopeFaults", spec := "scopeFaults", unfollowed := true, recurses := true, loops := true, apart := false }
def ScopeFaultsSaid : Prop := scopeFaultsRow.holds Tryz.pinned (OpenSpec.ofChange scopeFaultsSpec)

/-- ITS FALSE NEIGHBOUR: 'it returns false'. Refute it at one input. -/
def scopeFaultsWrong : ChangeSpec := { name := "scopeFaults", fn := fun _ => fun
  | [d] => { results := [.lit (.bool false)], args := [d] }
  | _ => none }
def ScopeFaultsWrongFalsely : Prop := scopeFaultsRow.holds Tryz.pinned (OpenSpec.ofChange scopeFaultsWrong)

/-- 'pendulelaw05.ScopeTwice': WHATEVER THE INPUT: true; the input reads as it did. -/
def scopeTwiceSpec : ChangeSpec := { name := "scopeTwice", fn := fun _ => fun
  | [d1, d2] => { results := [.lit (.bool true)], args := [d1, d2] }
  | _ => none }
def scopeTwiceRow : OpenClaim := { program := "ytggfnbnochmkdaagreat", sum := "f3463cbfa68bedeee759800fa5f438e4ca2cae3ce081d337400f9f514ef257ff", func := "pendule/pendulelaw05.ScopeTwice", spec := "scopeTwice", unfollowed := true, recurses := true, loops := true, apart := false }
def ScopeTwiceSaid : Prop := scopeTwiceRow.holds Tryz.pinned (OpenSpec.ofChange scopeTwiceSpec)

/-- ITS FALSE NEIGHBOUR: 'it returns false'. Refute it at one input. -/
def scopeTwiceWrong : ChangeSpec := { name := "scopeTwice", fn := fun _ => fun
  | [d1, d2] => { results := [.lit (.bool false)], args := [d1, d2] }
  | _ => none }
def ScopeTwiceWrongFalsely : Prop := scopeTwiceRow.holds Tryz.pinned (OpenSpec.ofChange scopeTwiceWrong)

/- THE SECOND FORM. 'bulk': how many values and letters a reading holds, each counted each time it is reached (what is shared counts as often as it is met; a slice's spare places count too). A statement '..UptoSaid' is the law's where the arguments, and the package variables that the reading takes, are together of bulk at most 1048576: NARROWER than '..Said'. Prove '..Said' where nothing that the law and all that it calls make is longer than what came in: it says more and counts as full. Else prove '..UptoSaid'. A law counts once. -/
mutual
def uptoBulk {H : Type} : DataW H → Nat
  | .lit (.string bytes) => bytes.length + 1
  | .lit _ => 1
  | .nil => 1
  | .ptr d => uptoBulk d + 1
  | .slice elems spare => uptoBulkAll elems + uptoBulkAll spare + 1
  | .agg parts => uptoBulkAll parts + 1
  | .iface _ d => uptoBulk d + 1
  | .map entries => uptoBulkEntries entries + 1
  | .held _ => 1
def uptoBulkAll {H : Type} : List (DataW H) → Nat
  | [] => 0
  | d :: r => uptoBulk d + uptoBulkAll r
def uptoBulkEntries {H : Type} : List (Lit × DataW H) → Nat
  | [] => 0
  | x :: r => uptoBulkEntry x + uptoBulkEntries r
def uptoBulkEntry {H : Type} : Lit × DataW H → Nat
  | (.string bytes, d) => bytes.length + uptoBulk d + 1
  | (_, d) => uptoBulk d + 1
 end
def uptoSmall : (H : Type) → List (DataW H) → Bool := fun _ ds => decide (uptoBulkAll ds ≤ 1048576)
def OpenSpec.upto (s : _root_.Go.ChangeSpec) : _root_.Go.OpenSpec := { _root_.Go.OpenSpec.ofChange s with cond := some uptoSmall }

/-- 'pendulelaw05.ScopeFaults', WHERE WHAT IT READS IS OF BULK AT MOST 1048576: true; the input reads as it did. -/
def scopeFaultsUptoRow : OpenClaim := { program := "ytggfnbnochmkdaagreat", sum := "f3463cbfa68bedeee759800fa5f438e4ca2cae3ce081d337400f9f514ef257ff", func := "pendule/pendulelaw05.ScopeFaults", spec := "scopeFaults", unfollowed := true, recurses := true, loops := true, apart := false, narrowed := true }
def ScopeFaultsUptoSaid : Prop := scopeFaultsUptoRow.holds Tryz.pinned (OpenSpec.upto scopeFaultsSpec)

/-- 'pendulelaw05.ScopeTwice', WHERE WHAT IT READS IS OF BULK AT MOST 1048576: true; the input reads as it did. -/
def scopeTwiceUptoRow : OpenClaim := { program := "ytggfnbnochmkdaagreat", sum := "f3463cbfa68bedeee759800fa5f438e4ca2cae3ce081d337400f9f514ef257ff", func := "pendule/pendulelaw05.ScopeTwice", spec := "scopeTwice", unfollowed := true, recurses := true, loops := true, apart := false, narrowed := true }
def ScopeTwiceUptoSaid : Prop := scopeTwiceUptoRow.holds Tryz.pinned (OpenSpec.upto scopeTwiceSpec)

end Rows
end Go.Proofs.YtggfnbnochmkdaaGreat
