/-
  No cell of these rows narrows 'for every input' (looked for: loops, veiled, ifaces, maps, wideKeys, modest, calm, conditions, laid).
  DERIVED. THE GIVEN ROWS OF THIS SEAT. 6 by the template 'for every input the law returns true; each argument reads behind the call as it read before'; 0 by the template 'total and deterministic' (their statements: YtcbaolgciiieeaaTotals.lean).
  GIVEN WITH THE SEED: the statements are not yours to turn. If you find one false, say at which input.
  Laid BY PROGRAM, IN A SANDBOX (cutbox-rows.mjs): the forced cells as the released guide's own fill.sh prints them over the translation 5d6825d40abe9658… (all of the seat's roots in one cut). By AI agents, Wed Nov 11 2026. No macro, syntax, notation, axiom, sorry.
-/
import Derived.Test.YtcbaolgciiieeaaChecked
import GoSem.Claim
import GoSem.ClaimJoined
import GoSem.ClaimMapViews
import Derived.JoinedTies
import Derived.KernelRfl
namespace Go.Proofs.Ytcbaolgciiieeaa
/- THE CELL 'sum', in the pinned program and in every row, IS THE sha256 OF THE DUMP (.gsa) THAT YtcbaolgciiieeaaProg.lean LOADS. Nothing in Lean hashes anything: it is a label: what it is worth is what the hold of that sum in a sandbox is worth. -/
noncomputable def Try.pinned : Pinned := { name := "ytcbaolgciiieeaa", sum := "5d6825d40abe9658079ee17fff53f55f2a14686bcfc8993bc2997e534cf101b5", checked := Try.checked }
namespace Rows
def none {H : Type} : Left H := { results := [], args := [] }

/-- 'adjointlaw2.ArrayInner': WHATEVER THE INPUT: true; the input reads as it did. -/
def arrayInnerSpec : ChangeSpec := { name := "arrayInner", fn := fun _ => fun
  | [d1, d2] => { results := [.lit (.bool true)], args := [d1, d2] }
  | _ => none }
def arrayInnerRow : OpenClaim := { program := "ytcbaolgciiieeaa", sum := "5d6825d40abe9658079ee17fff53f55f2a14686bcfc8993bc2997e534cf101b5", func := "adjoint/adjointlaw2.ArrayInner", spec := "arrayInner", unfollowed := true, recurses := true, apart := false }
def ArrayInnerSaid : Prop := arrayInnerRow.holds Try.pinned (OpenSpec.ofChange arrayInnerSpec)

/-- ITS FALSE NEIGHBOUR: 'it returns false'. Refute it at one input. -/
def arrayInnerWrong : ChangeSpec := { name := "arrayInner", fn := fun _ => fun
  | [d1, d2] => { results := [.lit (.bool false)], args := [d1, d2] }
  | _ => none }
def ArrayInnerWrongFalsely : Prop := arrayInnerRow.holds Try.pinned (OpenSpec.ofChange arrayInnerWrong)

/-- 'adjointlaw2.ArrayDims': WHATEVER THE INPUT: true; the input reads as it did. -/
def arrayDimsSpec : ChangeSpec := { name := "arrayDims", fn := fun _ => fun
  | [d1, d2, d3] => { results := [.lit (.bool true)], args := [d1, d2, d3] }
  | _ => none }
def arrayDimsRow : OpenClaim := { program := "ytcbaolgciiieeaa", sum := "5d6825d40abe9658079ee17fff53f55f2a14686bcfc8993bc2997e534cf101b5", func := "adjoint/adjointlaw2.ArrayDims", spec := "arrayDims", unfollowed := true, recurses := true, apart := false }
def ArrayDimsSaid : Prop := arrayDimsRow.holds Try.pinned (OpenSpec.ofChange arrayDimsSpec)

/-- ITS FALSE NEIGHBOUR: 'it returns false'. Refute it at one input. -/
def arrayDimsWrong : ChangeSpec := { name := "arrayDims", fn := fun _ => fun
  | [d1, d2, d3] => { results := [.lit (.bool false)], args := [d1, d2, d3] }
  | _ => none }
def ArrayDimsWrongFalsely : Prop := arrayDimsRow.holds Try.pinned (OpenSpec.ofChange arrayDimsWrong)

/-- 'adjointlaw2.ArrayPlain': WHATEVER THE INPUT: true; the input reads as it did. -/
def arrayPlainSpec : ChangeSpec := { name := "arrayPlain", fn := fun _ => fun
  | [d1, d2, d3] => { results := [.lit (.bool true)], args := [d1, d2, d3] }
  | _ => none }
def arrayPlainRow : OpenClaim := { program := "ytcbaolgciiieeaa", sum := "5d6825d40abe9658079ee17fff53f55f2a14686bcfc8993bc2997e534cf101b5", func := "adjoint/adjointlaw2.ArrayPlain", spec := "arrayPlain", unfollowed := true, recurses := true, apart := false }
def ArrayPlainSaid : Prop := arrayPlainRow.holds Try.pinned (OpenSpec.ofChange arrayPlainSpec)

/-- ITS FALSE NEIGHBOUR: 'it returns false'. Refute it at one input. -/
def arrayPlainWrong : ChangeSpec := { name := "arrayPlain", fn := fun _ => fun
  | [d1, d2, d3] => { results := [.lit (.bool false)], args := [d1, d2, d3] }
  | _ => none }
def ArrayPlainWrongFalsely : Prop := arrayPlainRow.holds Try.pinned (OpenSpec.ofChange arrayPlainWrong)

/-- 'adjointlaw2.ArrayRing': WHATEVER THE INPUT: true; the input reads as it did. -/
def arrayRingSpec : ChangeSpec := { name := "arrayRing", fn := fun _ => fun
  | [d1, d2, d3] => { results := [.lit (.bool true)], args := [d1, d2, d3] }
  | _ => none }
def arrayRingRow : OpenClaim := { program := "ytcbaolgciiieeaa", sum := "5d6825d40abe9658079ee17fff53f55f2a14686bcfc8993bc2997e534cf101b5", func := "adjoint/adjointlaw2.ArrayRing", spec := "arrayRing", unfollowed := true, recurses := true, apart := false }
def ArrayRingSaid : Prop := arrayRingRow.holds Try.pinned (OpenSpec.ofChange arrayRingSpec)

/-- ITS FALSE NEIGHBOUR: 'it returns false'. Refute it at one input. -/
def arrayRingWrong : ChangeSpec := { name := "arrayRing", fn := fun _ => fun
  | [d1, d2, d3] => { results := [.lit (.bool false)], args := [d1, d2, d3] }
  | _ => none }
def ArrayRingWrongFalsely : Prop := arrayRingRow.holds Try.pinned (OpenSpec.ofChange arrayRingWrong)

/-- 'adjointlaw2.ArrayLinear': WHATEVER THE INPUT: true; the input reads as it did. -/
def arrayLinearSpec : ChangeSpec := { name := "arrayLinear", fn := fun _ => fun
  | [d1, d2, d3, d4, d5] => { results := [.lit (.bool true)], args := [d1, d2, d3, d4, d5] }
  | _ => none }
def arrayLinearRow : OpenClaim := { program := "ytcbaolgciiieeaa", sum := "5d6825d40abe9658079ee17fff53f55f2a14686bcfc8993bc2997e534cf101b5", func := "adjoint/adjointlaw2.ArrayLinear", spec := "arrayLinear", unfollowed := true, recurses := true, apart := false }
def ArrayLinearSaid : Prop := arrayLinearRow.holds Try.pinned (OpenSpec.ofChange arrayLinearSpec)

/-- ITS FALSE NEIGHBOUR: 'it returns false'. Refute it at one input. -/
def arrayLinearWrong : ChangeSpec := { name := "arrayLinear", fn := fun _ => fun
  | [d1, d2, d3, d4, d5] => { results := [.lit (.bool false)], args := [d1, d2, d3, d4, d5] }
  | _ => none }
def ArrayLinearWrongFalsely : Prop := arrayLinearRow.holds Try.pinned (OpenSpec.ofChange arrayLinearWrong)

/-- 'adjointlaw2.ArrayMatrix': WHATEVER THE INPUT: true; the input reads as it did. -/
def arrayMatrixSpec : ChangeSpec := { name := "arrayMatrix", fn := fun _ => fun
  | [d1, d2, d3] => { results := [.lit (.bool true)], args := [d1, d2, d3] }
  | _ => none }
def arrayMatrixRow : OpenClaim := { program := "ytcbaolgciiieeaa", sum := "5d6825d40abe9658079ee17fff53f55f2a14686bcfc8993bc2997e534cf101b5", func := "adjoint/adjointlaw2.ArrayMatrix", spec := "arrayMatrix", unfollowed := true, recurses := true, apart := false }
def ArrayMatrixSaid : Prop := arrayMatrixRow.holds Try.pinned (OpenSpec.ofChange arrayMatrixSpec)

/-- ITS FALSE NEIGHBOUR: 'it returns false'. Refute it at one input. -/
def arrayMatrixWrong : ChangeSpec := { name := "arrayMatrix", fn := fun _ => fun
  | [d1, d2, d3] => { results := [.lit (.bool false)], args := [d1, d2, d3] }
  | _ => none }
def ArrayMatrixWrongFalsely : Prop := arrayMatrixRow.holds Try.pinned (OpenSpec.ofChange arrayMatrixWrong)

/- THE SECOND FORM. 'bulk': how many values and letters a reading holds, each counted each time it is reached (what is shared counts as often as it is met; a slice's spare places count too). A statement '..UptoSaid' is the law's where the arguments, and the package variables that the reading takes, are together of bulk at most 1048576: NARROWER than '..Said'. Prove '..Said' where nothing that the law and all that it calls make is longer than what came in: it says more and counts as full. Else prove '..UptoSaid'. A law counts once. -/
mutual
def uptoBulk {H : Type} : DataW H → Nat
  | .lit (.string bytes) => bytes.length + 1
  | .lit _ => 1
  | .nil => 1
  | .ptr d => uptoBulk d + 1
  | .slice elems spare => uptoBulkAll elems + uptoBulkAll spare + 1
  | .agg parts => uptoBulkAll parts + 1
  | .iface _ d => uptoBulk d + 1
  | .map entries => uptoBulkEntries entries + 1
  | .held _ => 1
def uptoBulkAll {H : Type} : List (DataW H) → Nat
  | [] => 0
  | d :: r => uptoBulk d + uptoBulkAll r
def uptoBulkEntries {H : Type} : List (Lit × DataW H) → Nat
  | [] => 0
  | x :: r => uptoBulkEntry x + uptoBulkEntries r
def uptoBulkEntry {H : Type} : Lit × DataW H → Nat
  | (.string bytes, d) => bytes.length + uptoBulk d + 1
  | (_, d) => uptoBulk d + 1
 end
def uptoSmall : (H : Type) → List (DataW H) → Bool := fun _ ds => decide (uptoBulkAll ds ≤ 1048576)
def OpenSpec.upto (s : _root_.Go.ChangeSpec) : _root_.Go.OpenSpec := { _root_.Go.OpenSpec.ofChange s with cond := some uptoSmall }

/-- 'adjointlaw2.ArrayInner', WHERE WHAT IT READS IS OF BULK AT MOST 1048576: true; the input reads as it did. -/
def arrayInnerUptoRow : OpenClaim := { program := "ytcbaolgciiieeaa", sum := "5d6825d40abe9658079ee17fff53f55f2a14686bcfc8993bc2997e534cf101b5", func := "adjoint/adjointlaw2.ArrayInner", spec := "arrayInner", unfollowed := true, recurses := true, apart := false, narrowed := true }
def ArrayInnerUptoSaid : Prop := arrayInnerUptoRow.holds Try.pinned (OpenSpec.upto arrayInnerSpec)

/-- 'adjointlaw2.ArrayDims', WHERE WHAT IT READS IS OF BULK AT MOST 1048576: true; the input reads as it did. -/
def arrayDimsUptoRow : OpenClaim := { program := "ytcbaolgciiieeaa", sum := "5d6825d40abe9658079ee17fff53f55f2a14686bcfc8993bc2997e534cf101b5", func := "adjoint/adjointlaw2.ArrayDims", spec := "arrayDims", unfollowed := true, recurses := true, apart := false, narrowed := true }
def ArrayDimsUptoSaid : Prop := arrayDimsUptoRow.holds Try.pinned (OpenSpec.upto arrayDimsSpec)

/-- 'adjointlaw2.ArrayPlain', WHERE WHAT IT READS IS OF BULK AT MOST 1048576: true; the input reads as it did. -/
def arrayPlainUptoRow : OpenClaim := { program := "ytcbaolgciiieeaa", sum := "5d6825d40abe9658079ee17fff53f55f2a14686bcfc8993bc2997e534cf101b5", func := "adjoint/adjointlaw2.ArrayPlain", spec := "arrayPlain", unfollowed := true, recurses := true, apart := false, narrowed := true }
def ArrayPlainUptoSaid : Prop := arrayPlainUptoRow.holds Try.pinned (OpenSpec.upto arrayPlainSpec)

/-- 'adjointlaw2.ArrayRing', WHERE WHAT IT READS IS OF BULK AT MOST 1048576: true; the input reads as it did. -/
def arrayRingUptoRow : OpenClaim := { program := "ytcbaolgciiieeaa", sum := "5d6825d40abe9658079ee17fff53f55f2a14686bcfc8993bc2997e534cf101b5", func := "adjoint/adjointlaw2.ArrayRing", spec := "arrayRing", unfollowed := true, recurses := true, apart := false, narrowed := true }
def ArrayRingUptoSaid : Prop := arrayRingUptoRow.holds Try.pinned (OpenSpec.upto arrayRingSpec)

/-- 'adjointlaw2.ArrayLinear', WHERE WHAT IT READS IS OF BULK AT MOST 1048576: true; the input reads as it did. -/
def arrayLinearUptoRow : OpenClaim := { program := "ytcbaolgciiieeaa", sum := "5d6825d40abe9658079ee17fff53f55f2a14686bcfc8993bc2997e534cf101b5", func := "adjoint/adjointlaw2.ArrayLinear", spec := "arrayLinear", unfollowed := true, recurses := true, apart := false, narrowed := true }
def ArrayLinearUptoSaid : Prop := arrayLinearUptoRow.holds Try.pinned (OpenSpec.upto arrayLinearSpec)

/-- 'adjointlaw2.ArrayMatrix', WHERE WHAT IT READS IS OF BULK AT MOST 1048576: true; the input reads as it did. -/
def arrayMatrixUptoRow : OpenClaim := { program := "ytcbaolgciiieeaa", sum := "5d6825d40abe9658079ee17fff53f55f2a14686bcfc8993bc2997e534cf101b5", func := "adjoint/adjointlaw2.ArrayMatrix", spec := "arrayMatrix", unfollowed := true, recurses := true, apart := false, narrowed := true }
def ArrayMatrixUptoSaid : Prop := arrayMatrixUptoRow.holds Try.pinned (OpenSpec.upto arrayMatrixSpec)

end Rows
end Go.Proofs.Ytcbaolgciiieeaa
