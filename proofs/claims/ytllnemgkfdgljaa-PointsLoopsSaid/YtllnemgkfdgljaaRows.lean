/-
  No cell of these rows narrows 'for every input' (looked for: loops, veiled, ifaces, maps, wideKeys, modest, calm, conditions, laid).
  DERIVED. THE GIVEN ROWS OF THIS SEAT. 5 by the template 'for every input the law returns true; each argument reads behind the call as it read before'; 0 by the template 'total and deterministic' (their statements: YtllnemgkfdgljaaTotals.lean).
  GIVEN WITH THE SEED: the statements are not yours to turn. If you find one false, say at which input.
  Laid BY PROGRAM, IN A SANDBOX (cutbox-rows.mjs): the forced cells as the released guide's own fill.sh prints them over the translation 9270b2363c4682c6… (all of the seat's roots in one cut). By AI agents, Wed Nov 11 2026. No macro, syntax, notation, axiom, sorry.
-/
import Derived.Test.YtllnemgkfdgljaaChecked
import GoSem.Claim
import GoSem.ClaimJoined
import GoSem.ClaimMapViews
import Derived.JoinedTies
import Derived.KernelRfl
namespace Go.Proofs.Ytllnemgkfdgljaa
/- THE CELL 'sum', in the pinned program and in every row, IS THE sha256 OF THE DUMP (.gsa) THAT YtllnemgkfdgljaaProg.lean LOADS. Nothing in Lean hashes anything: it is a label: what it is worth is what the hold of that sum in a sandbox is worth. -/
noncomputable def Try.pinned : Pinned := { name := "ytllnemgkfdgljaa", sum := "9270b2363c4682c689c4c964c44f46f3b7fc49afa126ce123646168a37d53371", checked := Try.checked }
namespace Rows
def none {H : Type} : Left H := { results := [], args := [] }

/-- 'adjointlaw9.PointsLoops': WHATEVER THE INPUT: true; the input reads as it did. -/
def pointsLoopsSpec : ChangeSpec := { name := "pointsLoops", fn := fun _ => fun
  | [d] => { results := [.lit (.bool true)], args := [d] }
  | _ => none }
def pointsLoopsRow : OpenClaim := { program := "ytllnemgkfdgljaa", sum := "9270b2363c4682c689c4c964c44f46f3b7fc49afa126ce123646168a37d53371", func := "adjoint/adjointlaw9.PointsLoops", spec := "pointsLoops", unfollowed := true, recurses := true, apart := false }
def PointsLoopsSaid : Prop := pointsLoopsRow.holds Try.pinned (OpenSpec.ofChange pointsLoopsSpec)

/-- ITS FALSE NEIGHBOUR: 'it returns false'. Refute it at one input. -/
def pointsLoopsWrong : ChangeSpec := { name := "pointsLoops", fn := fun _ => fun
  | [d] => { results := [.lit (.bool false)], args := [d] }
  | _ => none }
def PointsLoopsWrongFalsely : Prop := pointsLoopsRow.holds Try.pinned (OpenSpec.ofChange pointsLoopsWrong)

/-- 'adjointlaw9.PointsAll': WHATEVER THE INPUT: true; the input reads as it did. -/
def pointsAllSpec : ChangeSpec := { name := "pointsAll", fn := fun _ => fun
  | [d] => { results := [.lit (.bool true)], args := [d] }
  | _ => none }
def pointsAllRow : OpenClaim := { program := "ytllnemgkfdgljaa", sum := "9270b2363c4682c689c4c964c44f46f3b7fc49afa126ce123646168a37d53371", func := "adjoint/adjointlaw9.PointsAll", spec := "pointsAll", unfollowed := true, recurses := true, apart := false }
def PointsAllSaid : Prop := pointsAllRow.holds Try.pinned (OpenSpec.ofChange pointsAllSpec)

/-- ITS FALSE NEIGHBOUR: 'it returns false'. Refute it at one input. -/
def pointsAllWrong : ChangeSpec := { name := "pointsAll", fn := fun _ => fun
  | [d] => { results := [.lit (.bool false)], args := [d] }
  | _ => none }
def PointsAllWrongFalsely : Prop := pointsAllRow.holds Try.pinned (OpenSpec.ofChange pointsAllWrong)

/-- 'adjointlaw9.PointsCounts': WHATEVER THE INPUT: true; the input reads as it did. -/
def pointsCountsSpec : ChangeSpec := { name := "pointsCounts", fn := fun _ => fun
  | [d] => { results := [.lit (.bool true)], args := [d] }
  | _ => none }
def pointsCountsRow : OpenClaim := { program := "ytllnemgkfdgljaa", sum := "9270b2363c4682c689c4c964c44f46f3b7fc49afa126ce123646168a37d53371", func := "adjoint/adjointlaw9.PointsCounts", spec := "pointsCounts", unfollowed := true, recurses := true, apart := false }
def PointsCountsSaid : Prop := pointsCountsRow.holds Try.pinned (OpenSpec.ofChange pointsCountsSpec)

/-- ITS FALSE NEIGHBOUR: 'it returns false'. Refute it at one input. -/
def pointsCountsWrong : ChangeSpec := { name := "pointsCounts", fn := fun _ => fun
  | [d] => { results := [.lit (.bool false)], args := [d] }
  | _ => none }
def PointsCountsWrongFalsely : Prop := pointsCountsRow.holds Try.pinned (OpenSpec.ofChange pointsCountsWrong)

/-- 'adjointlaw9.PointsOrders': WHATEVER THE INPUT: true; the input reads as it did. -/
def pointsOrdersSpec : ChangeSpec := { name := "pointsOrders", fn := fun _ => fun
  | [d1, d2, d3] => { results := [.lit (.bool true)], args := [d1, d2, d3] }
  | _ => none }
def pointsOrdersRow : OpenClaim := { program := "ytllnemgkfdgljaa", sum := "9270b2363c4682c689c4c964c44f46f3b7fc49afa126ce123646168a37d53371", func := "adjoint/adjointlaw9.PointsOrders", spec := "pointsOrders", unfollowed := true, recurses := true, apart := false }
def PointsOrdersSaid : Prop := pointsOrdersRow.holds Try.pinned (OpenSpec.ofChange pointsOrdersSpec)

/-- ITS FALSE NEIGHBOUR: 'it returns false'. Refute it at one input. -/
def pointsOrdersWrong : ChangeSpec := { name := "pointsOrders", fn := fun _ => fun
  | [d1, d2, d3] => { results := [.lit (.bool false)], args := [d1, d2, d3] }
  | _ => none }
def PointsOrdersWrongFalsely : Prop := pointsOrdersRow.holds Try.pinned (OpenSpec.ofChange pointsOrdersWrong)

/-- 'adjointlaw9.PointsBack': WHATEVER THE INPUT: true; the input reads as it did. -/
def pointsBackSpec : ChangeSpec := { name := "pointsBack", fn := fun _ => fun
  | [d1, d2, d3] => { results := [.lit (.bool true)], args := [d1, d2, d3] }
  | _ => none }
def pointsBackRow : OpenClaim := { program := "ytllnemgkfdgljaa", sum := "9270b2363c4682c689c4c964c44f46f3b7fc49afa126ce123646168a37d53371", func := "adjoint/adjointlaw9.PointsBack", spec := "pointsBack", unfollowed := true, recurses := true, apart := false }
def PointsBackSaid : Prop := pointsBackRow.holds Try.pinned (OpenSpec.ofChange pointsBackSpec)

/-- ITS FALSE NEIGHBOUR: 'it returns false'. Refute it at one input. -/
def pointsBackWrong : ChangeSpec := { name := "pointsBack", fn := fun _ => fun
  | [d1, d2, d3] => { results := [.lit (.bool false)], args := [d1, d2, d3] }
  | _ => none }
def PointsBackWrongFalsely : Prop := pointsBackRow.holds Try.pinned (OpenSpec.ofChange pointsBackWrong)

/- THE SECOND FORM. 'bulk': how many values and letters a reading holds, each counted each time it is reached (what is shared counts as often as it is met; a slice's spare places count too). A statement '..UptoSaid' is the law's where the arguments, and the package variables that the reading takes, are together of bulk at most 1048576: NARROWER than '..Said'. Prove '..Said' where nothing that the law and all that it calls make is longer than what came in: it says more and counts as full. Else prove '..UptoSaid'. A law counts once. -/
mutual
def uptoBulk {H : Type} : DataW H → Nat
  | .lit (.string bytes) => bytes.length + 1
  | .lit _ => 1
  | .nil => 1
  | .ptr d => uptoBulk d + 1
  | .slice elems spare => uptoBulkAll elems + uptoBulkAll spare + 1
  | .agg parts => uptoBulkAll parts + 1
  | .iface _ d => uptoBulk d + 1
  | .map entries => uptoBulkEntries entries + 1
  | .held _ => 1
def uptoBulkAll {H : Type} : List (DataW H) → Nat
  | [] => 0
  | d :: r => uptoBulk d + uptoBulkAll r
def uptoBulkEntries {H : Type} : List (Lit × DataW H) → Nat
  | [] => 0
  | x :: r => uptoBulkEntry x + uptoBulkEntries r
def uptoBulkEntry {H : Type} : Lit × DataW H → Nat
  | (.string bytes, d) => bytes.length + uptoBulk d + 1
  | (_, d) => uptoBulk d + 1
 end
def uptoSmall : (H : Type) → List (DataW H) → Bool := fun _ ds => decide (uptoBulkAll ds ≤ 1048576)
def OpenSpec.upto (s : _root_.Go.ChangeSpec) : _root_.Go.OpenSpec := { _root_.Go.OpenSpec.ofChange s with cond := some uptoSmall }

/-- 'adjointlaw9.PointsLoops', WHERE WHAT IT READS IS OF BULK AT MOST 1048576: true; the input reads as it did. -/
def pointsLoopsUptoRow : OpenClaim := { program := "ytllnemgkfdgljaa", sum := "9270b2363c4682c689c4c964c44f46f3b7fc49afa126ce123646168a37d53371", func := "adjoint/adjointlaw9.PointsLoops", spec := "pointsLoops", unfollowed := true, recurses := true, apart := false, narrowed := true }
def PointsLoopsUptoSaid : Prop := pointsLoopsUptoRow.holds Try.pinned (OpenSpec.upto pointsLoopsSpec)

/-- 'adjointlaw9.PointsAll', WHERE WHAT IT READS IS OF BULK AT MOST 1048576: true; the input reads as it did. -/
def pointsAllUptoRow : OpenClaim := { program := "ytllnemgkfdgljaa", sum := "9270b2363c4682c689c4c964c44f46f3b7fc49afa126ce123646168a37d53371", func := "adjoint/adjointlaw9.PointsAll", spec := "pointsAll", unfollowed := true, recurses := true, apart := false, narrowed := true }
def PointsAllUptoSaid : Prop := pointsAllUptoRow.holds Try.pinned (OpenSpec.upto pointsAllSpec)

/-- 'adjointlaw9.PointsCounts', WHERE WHAT IT READS IS OF BULK AT MOST 1048576: true; the input reads as it did. -/
def pointsCountsUptoRow : OpenClaim := { program := "ytllnemgkfdgljaa", sum := "9270b2363c4682c689c4c964c44f46f3b7fc49afa126ce123646168a37d53371", func := "adjoint/adjointlaw9.PointsCounts", spec := "pointsCounts", unfollowed := true, recurses := true, apart := false, narrowed := true }
def PointsCountsUptoSaid : Prop := pointsCountsUptoRow.holds Try.pinned (OpenSpec.upto pointsCountsSpec)

/-- 'adjointlaw9.PointsOrders', WHERE WHAT IT READS IS OF BULK AT MOST 1048576: true; the input reads as it did. -/
def pointsOrdersUptoRow : OpenClaim := { program := "ytllnemgkfdgljaa", sum := "9270b2363c4682c689c4c964c44f46f3b7fc49afa126ce123646168a37d53371", func := "adjoint/adjointlaw9.PointsOrders", spec := "pointsOrders", unfollowed := true, recurses := true, apart := false, narrowed := true }
def PointsOrdersUptoSaid : Prop := pointsOrdersUptoRow.holds Try.pinned (OpenSpec.upto pointsOrdersSpec)

/-- 'adjointlaw9.PointsBack', WHERE WHAT IT READS IS OF BULK AT MOST 1048576: true; the input reads as it did. -/
def pointsBackUptoRow : OpenClaim := { program := "ytllnemgkfdgljaa", sum := "9270b2363c4682c689c4c964c44f46f3b7fc49afa126ce123646168a37d53371", func := "adjoint/adjointlaw9.PointsBack", spec := "pointsBack", unfollowed := true, recurses := true, apart := false, narrowed := true }
def PointsBackUptoSaid : Prop := pointsBackUptoRow.holds Try.pinned (OpenSpec.upto pointsBackSpec)

end Rows
end Go.Proofs.Ytllnemgkfdgljaa
