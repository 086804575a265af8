/-
  No cell of these rows narrows 'for every input' (looked for: loops, veiled, ifaces, maps, wideKeys, modest, calm, conditions, laid).
  DERIVED. THE GIVEN ROWS OF THIS SEAT. 4 by the template 'for every input the law returns true; each argument reads behind the call as it read before'; 0 by the template 'total and deterministic' (their statements: YtcbaolgciiieeaaGreatTotals.lean).
  GIVEN WITH THE SEED: the statements are not yours to turn. If you find one false, say at which input.
  Laid BY PROGRAM, IN A SANDBOX (cutbox-rows.mjs): the forced cells as the released guide's own fill.sh prints them over the translation 7c369e3c7c98da6b… (all of the seat's roots in one cut). By AI agents, Wed Nov 11 2026. No macro, syntax, notation, axiom, sorry.
-/
import Derived.Test.YtcbaolgciiieeaaGreatChecked
import GoSem.Claim
import GoSem.ClaimJoined
import GoSem.ClaimMapViews
import Derived.JoinedTies
import Derived.KernelRfl
namespace Go.Proofs.YtcbaolgciiieeaaGreat
/- THE CELL 'sum', in the pinned program and in every row, IS THE sha256 OF THE DUMP (.gsa) THAT YtcbaolgciiieeaaGreatProg.lean LOADS. Nothing in Lean hashes anything: it is a label: what it is worth is what the hold of that sum in a sandbox is worth. -/
noncomputable def Tryz.pinned : Pinned := { name := "ytcbaolgciiieeaagreat", sum := "7c369e3c7c98da6be3858016a9eb08abace8703fc1b9a19a8a92e70574695f81", checked := Tryz.checked }
namespace Rows
def none {H : Type} : Left H := { results := [], args := [] }

/-- 'adjointlaw2.ArrayDoes': WHATEVER THE INPUT: true; the input reads as it did. -/
def arrayDoesSpec : ChangeSpec := { name := "arrayDoes", fn := fun _ => fun
  | [d1, d2] => { results := [.lit (.bool true)], args := [d1, d2] }
  | _ => none }
def arrayDoesRow : OpenClaim := { program := "ytcbaolgciiieeaagreat", sum := "7c369e3c7c98da6be3858016a9eb08abace8703fc1b9a19a8a92e70574695f81", func := "adjoint/adjointlaw2.ArrayDoes", spec := "arrayDoes", unfollowed := true, recurses := true, apart := false }
def ArrayDoesSaid : Prop := arrayDoesRow.holds Tryz.pinned (OpenSpec.ofChange arrayDoesSpec)

/-- ITS FALSE NEIGHBOUR: 'it returns false'. Refute it at one input. -/
def arrayDoesWrong : ChangeSpec := { name := "arrayDoes", fn := fun _ => fun
  | [d1, d2] => { results := [.lit (.bool false)], args := [d1, d2] }
  | _ => none }
def ArrayDoesWrongFalsely : Prop := arrayDoesRow.holds Tryz.pinned (OpenSpec.ofChange arrayDoesWrong)

/-- 'adjointlaw2.ArrayCuts': WHATEVER THE INPUT: true; the input reads as it did. -/
def arrayCutsSpec : ChangeSpec := { name := "arrayCuts", fn := fun _ => fun
  | [d1, d2] => { results := [.lit (.bool true)], args := [d1, d2] }
  | _ => none }
def arrayCutsRow : OpenClaim := { program := "ytcbaolgciiieeaagreat", sum := "7c369e3c7c98da6be3858016a9eb08abace8703fc1b9a19a8a92e70574695f81", func := "adjoint/adjointlaw2.ArrayCuts", spec := "arrayCuts", unfollowed := true, recurses := true, apart := false }
def ArrayCutsSaid : Prop := arrayCutsRow.holds Tryz.pinned (OpenSpec.ofChange arrayCutsSpec)

/-- ITS FALSE NEIGHBOUR: 'it returns false'. Refute it at one input. -/
def arrayCutsWrong : ChangeSpec := { name := "arrayCuts", fn := fun _ => fun
  | [d1, d2] => { results := [.lit (.bool false)], args := [d1, d2] }
  | _ => none }
def ArrayCutsWrongFalsely : Prop := arrayCutsRow.holds Tryz.pinned (OpenSpec.ofChange arrayCutsWrong)

/-- 'adjointlaw2.ArrayAdjoint': WHATEVER THE INPUT: true; the input reads as it did. -/
def arrayAdjointSpec : ChangeSpec := { name := "arrayAdjoint", fn := fun _ => fun
  | [d1, d2, d3] => { results := [.lit (.bool true)], args := [d1, d2, d3] }
  | _ => none }
def arrayAdjointRow : OpenClaim := { program := "ytcbaolgciiieeaagreat", sum := "7c369e3c7c98da6be3858016a9eb08abace8703fc1b9a19a8a92e70574695f81", func := "adjoint/adjointlaw2.ArrayAdjoint", spec := "arrayAdjoint", unfollowed := true, recurses := true, apart := false }
def ArrayAdjointSaid : Prop := arrayAdjointRow.holds Tryz.pinned (OpenSpec.ofChange arrayAdjointSpec)

/-- ITS FALSE NEIGHBOUR: 'it returns false'. Refute it at one input. -/
def arrayAdjointWrong : ChangeSpec := { name := "arrayAdjoint", fn := fun _ => fun
  | [d1, d2, d3] => { results := [.lit (.bool false)], args := [d1, d2, d3] }
  | _ => none }
def ArrayAdjointWrongFalsely : Prop := arrayAdjointRow.holds Tryz.pinned (OpenSpec.ofChange arrayAdjointWrong)

/-- 'adjointlaw2.ArrayRows': WHATEVER THE INPUT: true; the input reads as it did. -/
def arrayRowsSpec : ChangeSpec := { name := "arrayRows", fn := fun _ => fun
  | [d1, d2, d3] => { results := [.lit (.bool true)], args := [d1, d2, d3] }
  | _ => none }
def arrayRowsRow : OpenClaim := { program := "ytcbaolgciiieeaagreat", sum := "7c369e3c7c98da6be3858016a9eb08abace8703fc1b9a19a8a92e70574695f81", func := "adjoint/adjointlaw2.ArrayRows", spec := "arrayRows", unfollowed := true, recurses := true, apart := false }
def ArrayRowsSaid : Prop := arrayRowsRow.holds Tryz.pinned (OpenSpec.ofChange arrayRowsSpec)

/-- ITS FALSE NEIGHBOUR: 'it returns false'. Refute it at one input. -/
def arrayRowsWrong : ChangeSpec := { name := "arrayRows", fn := fun _ => fun
  | [d1, d2, d3] => { results := [.lit (.bool false)], args := [d1, d2, d3] }
  | _ => none }
def ArrayRowsWrongFalsely : Prop := arrayRowsRow.holds Tryz.pinned (OpenSpec.ofChange arrayRowsWrong)

/- THE SECOND FORM. 'bulk': how many values and letters a reading holds, each counted each time it is reached (what is shared counts as often as it is met; a slice's spare places count too). A statement '..UptoSaid' is the law's where the arguments, and the package variables that the reading takes, are together of bulk at most 1048576: NARROWER than '..Said'. Prove '..Said' where nothing that the law and all that it calls make is longer than what came in: it says more and counts as full. Else prove '..UptoSaid'. A law counts once. -/
mutual
def uptoBulk {H : Type} : DataW H → Nat
  | .lit (.string bytes) => bytes.length + 1
  | .lit _ => 1
  | .nil => 1
  | .ptr d => uptoBulk d + 1
  | .slice elems spare => uptoBulkAll elems + uptoBulkAll spare + 1
  | .agg parts => uptoBulkAll parts + 1
  | .iface _ d => uptoBulk d + 1
  | .map entries => uptoBulkEntries entries + 1
  | .held _ => 1
def uptoBulkAll {H : Type} : List (DataW H) → Nat
  | [] => 0
  | d :: r => uptoBulk d + uptoBulkAll r
def uptoBulkEntries {H : Type} : List (Lit × DataW H) → Nat
  | [] => 0
  | x :: r => uptoBulkEntry x + uptoBulkEntries r
def uptoBulkEntry {H : Type} : Lit × DataW H → Nat
  | (.string bytes, d) => bytes.length + uptoBulk d + 1
  | (_, d) => uptoBulk d + 1
 end
def uptoSmall : (H : Type) → List (DataW H) → Bool := fun _ ds => decide (uptoBulkAll ds ≤ 1048576)
def OpenSpec.upto (s : _root_.Go.ChangeSpec) : _root_.Go.OpenSpec := { _root_.Go.OpenSpec.ofChange s with cond := some uptoSmall }

/-- 'adjointlaw2.ArrayDoes', WHERE WHAT IT READS IS OF BULK AT MOST 1048576: true; the input reads as it did. -/
def arrayDoesUptoRow : OpenClaim := { program := "ytcbaolgciiieeaagreat", sum := "7c369e3c7c98da6be3858016a9eb08abace8703fc1b9a19a8a92e70574695f81", func := "adjoint/adjointlaw2.ArrayDoes", spec := "arrayDoes", unfollowed := true, recurses := true, apart := false, narrowed := true }
def ArrayDoesUptoSaid : Prop := arrayDoesUptoRow.holds Tryz.pinned (OpenSpec.upto arrayDoesSpec)

/-- 'adjointlaw2.ArrayCuts', WHERE WHAT IT READS IS OF BULK AT MOST 1048576: true; the input reads as it did. -/
def arrayCutsUptoRow : OpenClaim := { program := "ytcbaolgciiieeaagreat", sum := "7c369e3c7c98da6be3858016a9eb08abace8703fc1b9a19a8a92e70574695f81", func := "adjoint/adjointlaw2.ArrayCuts", spec := "arrayCuts", unfollowed := true, recurses := true, apart := false, narrowed := true }
def ArrayCutsUptoSaid : Prop := arrayCutsUptoRow.holds Tryz.pinned (OpenSpec.upto arrayCutsSpec)

/-- 'adjointlaw2.ArrayAdjoint', WHERE WHAT IT READS IS OF BULK AT MOST 1048576: true; the input reads as it did. -/
def arrayAdjointUptoRow : OpenClaim := { program := "ytcbaolgciiieeaagreat", sum := "7c369e3c7c98da6be3858016a9eb08abace8703fc1b9a19a8a92e70574695f81", func := "adjoint/adjointlaw2.ArrayAdjoint", spec := "arrayAdjoint", unfollowed := true, recurses := true, apart := false, narrowed := true }
def ArrayAdjointUptoSaid : Prop := arrayAdjointUptoRow.holds Tryz.pinned (OpenSpec.upto arrayAdjointSpec)

/-- 'adjointlaw2.ArrayRows', WHERE WHAT IT READS IS OF BULK AT MOST 1048576: true; the input reads as it did. -/
def arrayRowsUptoRow : OpenClaim := { program := "ytcbaolgciiieeaagreat", sum := "7c369e3c7c98da6be3858016a9eb08abace8703fc1b9a19a8a92e70574695f81", func := "adjoint/adjointlaw2.ArrayRows", spec := "arrayRows", unfollowed := true, recurses := true, apart := false, narrowed := true }
def ArrayRowsUptoSaid : Prop := arrayRowsUptoRow.holds Tryz.pinned (OpenSpec.upto arrayRowsSpec)

end Rows
end Go.Proofs.YtcbaolgciiieeaaGreat
