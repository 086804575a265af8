/-
  No cell of these rows narrows 'for every input' (looked for: loops, veiled, ifaces, maps, wideKeys, modest, calm, conditions, laid).
  DERIVED. THE GIVEN ROWS OF THIS SEAT. 7 by the template 'for every input the law returns true; each argument reads behind the call as it read before'; 0 by the template 'total and deterministic' (their statements: YtfkigaldejbeiaaTotals.lean).
  GIVEN WITH THE SEED: the statements are not yours to turn. If you find one false, say at which input.
  Laid BY PROGRAM, IN A SANDBOX (cutbox-rows.mjs): the forced cells as the released guide's own fill.sh prints them over the translation a3fb13f031f8cb25… (all of the seat's roots in one cut). By AI agents, Wed Nov 11 2026. No macro, syntax, notation, axiom, sorry.
-/
import Derived.Test.YtfkigaldejbeiaaChecked
import GoSem.Claim
import GoSem.ClaimJoined
import GoSem.ClaimMapViews
import Derived.JoinedTies
import Derived.KernelRfl
namespace Go.Proofs.Ytfkigaldejbeiaa
/- THE CELL 'sum', in the pinned program and in every row, IS THE sha256 OF THE DUMP (.gsa) THAT YtfkigaldejbeiaaProg.lean LOADS. Nothing in Lean hashes anything: it is a label: what it is worth is what the hold of that sum in a sandbox is worth. -/
noncomputable def Try.pinned : Pinned := { name := "ytfkigaldejbeiaa", sum := "a3fb13f031f8cb256b2f41042f0cfd2bac1897792706e9989149b0296b86034a", checked := Try.checked }
namespace Rows
def none {H : Type} : Left H := { results := [], args := [] }

/-- 'adjointlaw11.OrderStrips': WHATEVER THE INPUT: true; the input reads as it did. -/
def orderStripsSpec : ChangeSpec := { name := "orderStrips", fn := fun _ => fun
  | [d1, d2, d3, d4] => { results := [.lit (.bool true)], args := [d1, d2, d3, d4] }
  | _ => none }
def orderStripsRow : OpenClaim := { program := "ytfkigaldejbeiaa", sum := "a3fb13f031f8cb256b2f41042f0cfd2bac1897792706e9989149b0296b86034a", func := "adjoint/adjointlaw11.OrderStrips", spec := "orderStrips", unfollowed := true, recurses := true, plainKeys := false, apart := false }
def OrderStripsSaid : Prop := orderStripsRow.holds Try.pinned (OpenSpec.ofChange orderStripsSpec)

/-- ITS FALSE NEIGHBOUR: 'it returns false'. Refute it at one input. -/
def orderStripsWrong : ChangeSpec := { name := "orderStrips", fn := fun _ => fun
  | [d1, d2, d3, d4] => { results := [.lit (.bool false)], args := [d1, d2, d3, d4] }
  | _ => none }
def OrderStripsWrongFalsely : Prop := orderStripsRow.holds Try.pinned (OpenSpec.ofChange orderStripsWrong)

/-- 'adjointlaw11.OrderFinds': WHATEVER THE INPUT: true; the input reads as it did. -/
def orderFindsSpec : ChangeSpec := { name := "orderFinds", fn := fun _ => fun
  | [d1, d2] => { results := [.lit (.bool true)], args := [d1, d2] }
  | _ => none }
def orderFindsRow : OpenClaim := { program := "ytfkigaldejbeiaa", sum := "a3fb13f031f8cb256b2f41042f0cfd2bac1897792706e9989149b0296b86034a", func := "adjoint/adjointlaw11.OrderFinds", spec := "orderFinds", unfollowed := true, recurses := true, plainKeys := false, apart := false }
def OrderFindsSaid : Prop := orderFindsRow.holds Try.pinned (OpenSpec.ofChange orderFindsSpec)

/-- ITS FALSE NEIGHBOUR: 'it returns false'. Refute it at one input. -/
def orderFindsWrong : ChangeSpec := { name := "orderFinds", fn := fun _ => fun
  | [d1, d2] => { results := [.lit (.bool false)], args := [d1, d2] }
  | _ => none }
def OrderFindsWrongFalsely : Prop := orderFindsRow.holds Try.pinned (OpenSpec.ofChange orderFindsWrong)

/-- 'adjointlaw11.OrderRuns': WHATEVER THE INPUT: true; the input reads as it did. -/
def orderRunsSpec : ChangeSpec := { name := "orderRuns", fn := fun _ => fun
  | [d1, d2, d3, d4] => { results := [.lit (.bool true)], args := [d1, d2, d3, d4] }
  | _ => none }
def orderRunsRow : OpenClaim := { program := "ytfkigaldejbeiaa", sum := "a3fb13f031f8cb256b2f41042f0cfd2bac1897792706e9989149b0296b86034a", func := "adjoint/adjointlaw11.OrderRuns", spec := "orderRuns", unfollowed := true, recurses := true, plainKeys := false, apart := false }
def OrderRunsSaid : Prop := orderRunsRow.holds Try.pinned (OpenSpec.ofChange orderRunsSpec)

/-- ITS FALSE NEIGHBOUR: 'it returns false'. Refute it at one input. -/
def orderRunsWrong : ChangeSpec := { name := "orderRuns", fn := fun _ => fun
  | [d1, d2, d3, d4] => { results := [.lit (.bool false)], args := [d1, d2, d3, d4] }
  | _ => none }
def OrderRunsWrongFalsely : Prop := orderRunsRow.holds Try.pinned (OpenSpec.ofChange orderRunsWrong)

/-- 'adjointlaw11.OrderKeeps': WHATEVER THE INPUT: true; the input reads as it did. -/
def orderKeepsSpec : ChangeSpec := { name := "orderKeeps", fn := fun _ => fun
  | [d1, d2, d3] => { results := [.lit (.bool true)], args := [d1, d2, d3] }
  | _ => none }
def orderKeepsRow : OpenClaim := { program := "ytfkigaldejbeiaa", sum := "a3fb13f031f8cb256b2f41042f0cfd2bac1897792706e9989149b0296b86034a", func := "adjoint/adjointlaw11.OrderKeeps", spec := "orderKeeps", unfollowed := true, recurses := true, plainKeys := false, apart := false }
def OrderKeepsSaid : Prop := orderKeepsRow.holds Try.pinned (OpenSpec.ofChange orderKeepsSpec)

/-- ITS FALSE NEIGHBOUR: 'it returns false'. Refute it at one input. -/
def orderKeepsWrong : ChangeSpec := { name := "orderKeeps", fn := fun _ => fun
  | [d1, d2, d3] => { results := [.lit (.bool false)], args := [d1, d2, d3] }
  | _ => none }
def OrderKeepsWrongFalsely : Prop := orderKeepsRow.holds Try.pinned (OpenSpec.ofChange orderKeepsWrong)

/-- 'adjointlaw11.OrderMixes': WHATEVER THE INPUT: true; the input reads as it did. -/
def orderMixesSpec : ChangeSpec := { name := "orderMixes", fn := fun _ => fun
  | [d1, d2, d3, d4] => { results := [.lit (.bool true)], args := [d1, d2, d3, d4] }
  | _ => none }
def orderMixesRow : OpenClaim := { program := "ytfkigaldejbeiaa", sum := "a3fb13f031f8cb256b2f41042f0cfd2bac1897792706e9989149b0296b86034a", func := "adjoint/adjointlaw11.OrderMixes", spec := "orderMixes", unfollowed := true, recurses := true, plainKeys := false, apart := false }
def OrderMixesSaid : Prop := orderMixesRow.holds Try.pinned (OpenSpec.ofChange orderMixesSpec)

/-- ITS FALSE NEIGHBOUR: 'it returns false'. Refute it at one input. -/
def orderMixesWrong : ChangeSpec := { name := "orderMixes", fn := fun _ => fun
  | [d1, d2, d3, d4] => { results := [.lit (.bool false)], args := [d1, d2, d3, d4] }
  | _ => none }
def OrderMixesWrongFalsely : Prop := orderMixesRow.holds Try.pinned (OpenSpec.ofChange orderMixesWrong)

/-- 'adjointlaw11.OrderStripped': WHATEVER THE INPUT: true; the input reads as it did. -/
def orderStrippedSpec : ChangeSpec := { name := "orderStripped", fn := fun _ => fun
  | [d1, d2, d3, d4, d5] => { results := [.lit (.bool true)], args := [d1, d2, d3, d4, d5] }
  | _ => none }
def orderStrippedRow : OpenClaim := { program := "ytfkigaldejbeiaa", sum := "a3fb13f031f8cb256b2f41042f0cfd2bac1897792706e9989149b0296b86034a", func := "adjoint/adjointlaw11.OrderStripped", spec := "orderStripped", unfollowed := true, recurses := true, plainKeys := false, apart := false }
def OrderStrippedSaid : Prop := orderStrippedRow.holds Try.pinned (OpenSpec.ofChange orderStrippedSpec)

/-- ITS FALSE NEIGHBOUR: 'it returns false'. Refute it at one input. -/
def orderStrippedWrong : ChangeSpec := { name := "orderStripped", fn := fun _ => fun
  | [d1, d2, d3, d4, d5] => { results := [.lit (.bool false)], args := [d1, d2, d3, d4, d5] }
  | _ => none }
def OrderStrippedWrongFalsely : Prop := orderStrippedRow.holds Try.pinned (OpenSpec.ofChange orderStrippedWrong)

/-- 'adjointlaw11.OrderPlain': WHATEVER THE INPUT: true; the input reads as it did. -/
def orderPlainSpec : ChangeSpec := { name := "orderPlain", fn := fun _ => fun
  | [d1, d2, d3] => { results := [.lit (.bool true)], args := [d1, d2, d3] }
  | _ => none }
def orderPlainRow : OpenClaim := { program := "ytfkigaldejbeiaa", sum := "a3fb13f031f8cb256b2f41042f0cfd2bac1897792706e9989149b0296b86034a", func := "adjoint/adjointlaw11.OrderPlain", spec := "orderPlain", unfollowed := true, recurses := true, plainKeys := false, apart := false }
def OrderPlainSaid : Prop := orderPlainRow.holds Try.pinned (OpenSpec.ofChange orderPlainSpec)

/-- ITS FALSE NEIGHBOUR: 'it returns false'. Refute it at one input. -/
def orderPlainWrong : ChangeSpec := { name := "orderPlain", fn := fun _ => fun
  | [d1, d2, d3] => { results := [.lit (.bool false)], args := [d1, d2, d3] }
  | _ => none }
def OrderPlainWrongFalsely : Prop := orderPlainRow.holds Try.pinned (OpenSpec.ofChange orderPlainWrong)

/- THE SECOND FORM. 'bulk': how many values and letters a reading holds, each counted each time it is reached (what is shared counts as often as it is met; a slice's spare places count too). A statement '..UptoSaid' is the law's where the arguments, and the package variables that the reading takes, are together of bulk at most 1048576: NARROWER than '..Said'. Prove '..Said' where nothing that the law and all that it calls make is longer than what came in: it says more and counts as full. Else prove '..UptoSaid'. A law counts once. -/
mutual
def uptoBulk {H : Type} : DataW H → Nat
  | .lit (.string bytes) => bytes.length + 1
  | .lit _ => 1
  | .nil => 1
  | .ptr d => uptoBulk d + 1
  | .slice elems spare => uptoBulkAll elems + uptoBulkAll spare + 1
  | .agg parts => uptoBulkAll parts + 1
  | .iface _ d => uptoBulk d + 1
  | .map entries => uptoBulkEntries entries + 1
  | .held _ => 1
def uptoBulkAll {H : Type} : List (DataW H) → Nat
  | [] => 0
  | d :: r => uptoBulk d + uptoBulkAll r
def uptoBulkEntries {H : Type} : List (Lit × DataW H) → Nat
  | [] => 0
  | x :: r => uptoBulkEntry x + uptoBulkEntries r
def uptoBulkEntry {H : Type} : Lit × DataW H → Nat
  | (.string bytes, d) => bytes.length + uptoBulk d + 1
  | (_, d) => uptoBulk d + 1
 end
def uptoSmall : (H : Type) → List (DataW H) → Bool := fun _ ds => decide (uptoBulkAll ds ≤ 1048576)
def OpenSpec.upto (s : _root_.Go.ChangeSpec) : _root_.Go.OpenSpec := { _root_.Go.OpenSpec.ofChange s with cond := some uptoSmall }

/-- 'adjointlaw11.OrderStrips', WHERE WHAT IT READS IS OF BULK AT MOST 1048576: true; the input reads as it did. -/
def orderStripsUptoRow : OpenClaim := { program := "ytfkigaldejbeiaa", sum := "a3fb13f031f8cb256b2f41042f0cfd2bac1897792706e9989149b0296b86034a", func := "adjoint/adjointlaw11.OrderStrips", spec := "orderStrips", unfollowed := true, recurses := true, plainKeys := false, apart := false, narrowed := true }
def OrderStripsUptoSaid : Prop := orderStripsUptoRow.holds Try.pinned (OpenSpec.upto orderStripsSpec)

/-- 'adjointlaw11.OrderFinds', WHERE WHAT IT READS IS OF BULK AT MOST 1048576: true; the input reads as it did. -/
def orderFindsUptoRow : OpenClaim := { program := "ytfkigaldejbeiaa", sum := "a3fb13f031f8cb256b2f41042f0cfd2bac1897792706e9989149b0296b86034a", func := "adjoint/adjointlaw11.OrderFinds", spec := "orderFinds", unfollowed := true, recurses := true, plainKeys := false, apart := false, narrowed := true }
def OrderFindsUptoSaid : Prop := orderFindsUptoRow.holds Try.pinned (OpenSpec.upto orderFindsSpec)

/-- 'adjointlaw11.OrderRuns', WHERE WHAT IT READS IS OF BULK AT MOST 1048576: true; the input reads as it did. -/
def orderRunsUptoRow : OpenClaim := { program := "ytfkigaldejbeiaa", sum := "a3fb13f031f8cb256b2f41042f0cfd2bac1897792706e9989149b0296b86034a", func := "adjoint/adjointlaw11.OrderRuns", spec := "orderRuns", unfollowed := true, recurses := true, plainKeys := false, apart := false, narrowed := true }
def OrderRunsUptoSaid : Prop := orderRunsUptoRow.holds Try.pinned (OpenSpec.upto orderRunsSpec)

/-- 'adjointlaw11.OrderKeeps', WHERE WHAT IT READS IS OF BULK AT MOST 1048576: true; the input reads as it did. -/
def orderKeepsUptoRow : OpenClaim := { program := "ytfkigaldejbeiaa", sum := "a3fb13f031f8cb256b2f41042f0cfd2bac1897792706e9989149b0296b86034a", func := "adjoint/adjointlaw11.OrderKeeps", spec := "orderKeeps", unfollowed := true, recurses := true, plainKeys := false, apart := false, narrowed := true }
def OrderKeepsUptoSaid : Prop := orderKeepsUptoRow.holds Try.pinned (OpenSpec.upto orderKeepsSpec)

/-- 'adjointlaw11.OrderMixes', WHERE WHAT IT READS IS OF BULK AT MOST 1048576: true; the input reads as it did. -/
def orderMixesUptoRow : OpenClaim := { program := "ytfkigaldejbeiaa", sum := "a3fb13f031f8cb256b2f41042f0cfd2bac1897792706e9989149b0296b86034a", func := "adjoint/adjointlaw11.OrderMixes", spec := "orderMixes", unfollowed := true, recurses := true, plainKeys := false, apart := false, narrowed := true }
def OrderMixesUptoSaid : Prop := orderMixesUptoRow.holds Try.pinned (OpenSpec.upto orderMixesSpec)

/-- 'adjointlaw11.OrderStripped', WHERE WHAT IT READS IS OF BULK AT MOST 1048576: true; the input reads as it did. -/
def orderStrippedUptoRow : OpenClaim := { program := "ytfkigaldejbeiaa", sum := "a3fb13f031f8cb256b2f41042f0cfd2bac1897792706e9989149b0296b86034a", func := "adjoint/adjointlaw11.OrderStripped", spec := "orderStripped", unfollowed := true, recurses := true, plainKeys := false, apart := false, narrowed := true }
def OrderStrippedUptoSaid : Prop := orderStrippedUptoRow.holds Try.pinned (OpenSpec.upto orderStrippedSpec)

/-- 'adjointlaw11.OrderPlain', WHERE WHAT IT READS IS OF BULK AT MOST 1048576: true; the input reads as it did. -/
def orderPlainUptoRow : OpenClaim := { program := "ytfkigaldejbeiaa", sum := "a3fb13f031f8cb256b2f41042f0cfd2bac1897792706e9989149b0296b86034a", func := "adjoint/adjointlaw11.OrderPlain", spec := "orderPlain", unfollowed := true, recurses := true, plainKeys := false, apart := false, narrowed := true }
def OrderPlainUptoSaid : Prop := orderPlainUptoRow.holds Try.pinned (OpenSpec.upto orderPlainSpec)

end Rows
end Go.Proofs.Ytfkigaldejbeiaa
