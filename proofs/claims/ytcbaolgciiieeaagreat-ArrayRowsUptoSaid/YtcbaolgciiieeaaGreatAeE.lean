/-
  Arrays: the plain law: what an operation makes is the same in both.
-/
import Derived.Test.YtcbaolgciiieeaaGreatAeD
set_option linter.unusedSectionVars false
set_option linter.unusedSimpArgs false
set_option linter.unusedVariables false
set_option maxRecDepth 20000
namespace Go.DN.Pl
open Go.AM Go.PL
theorem right_many {k : Int} {n : Nat} (h : rightS k n = 0) : manyS k ≠ -2 ∧ (manyS k ≥ 0 → manyS k = n) ∧ (manyS k = -1 → n ≠ 0) := by
  unfold rightS at h
  split at h
  · omega
  · rename_i h1
    split at h
    · omega
    · rename_i h2
      refine ⟨h1, fun h3 => ?_, fun h3 => ?_⟩
      · apply Classical.byContradiction; intro h4; exact h2 (.inl ⟨h3, h4⟩)
      · intro h4; exact h2 (.inr ⟨h3, h4⟩)
end Go.DN.Pl
