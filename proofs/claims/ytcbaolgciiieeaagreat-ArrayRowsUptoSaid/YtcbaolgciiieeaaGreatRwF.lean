/-
  Arrays: the plain law of rows: how long rows are.
-/
import Derived.Test.YtcbaolgciiieeaaGreatRwE
set_option linter.unusedSectionVars false
set_option linter.unusedSimpArgs false
set_option linter.unusedVariables false
set_option maxRecDepth 20000
namespace Go.DN.Pl
open Go.AM Go.PL
theorem prodR_cat (l m : List Int) : prodR (l ++ m) = prodR l * prodR m := by
 induction l with
 | nil => simp [prodR]
 | cons x r ih =>
  rw [List.cons_append, prodR, prodR, ih, Int.mul_right_comm]
def szN (d : List Int) : Int := if hasB d 0 then 0 else prodR d
theorem szN_eq {d : List Int} (h : (sizeS d).2 = 0) : (sizeS d).1 = szN d := by
 obtain ⟨_, _, hp, hz⟩ := size_zero h
 unfold szN
 cases hb : hasB d 0 with
 | true => rw [hz hb]; rfl
 | false => rw [(hp hb).2.2]; rfl
theorem szN_app (a b : List Int) : szN (a ++ b) = szN a * szN b := by
 unfold szN
 rw [hasB_app, prodR_cat]
 cases hasB a 0 <;> cases hasB b 0 <;> simp
theorem szN_cons (x : Int) (r : List Int) : szN (x :: r) = x * szN r := by
  have e : hasB (x :: r) 0 = ((x == 0) || hasB r 0) := rfl
  unfold szN
  rw [e]
  by_cases h : x = 0
  · subst h; simp
  · rw [show (x == 0) = false by simp [h], Bool.false_or]
    cases hasB r 0
    · simp [prodR, Int.mul_comm]
    · simp
end Go.DN.Pl
