/-
  Arrays: the plain law: views: whole, wrong, spread, turned.
-/
import Derived.Test.YtcbaolgciiieeaaAdV
set_option linter.unusedSectionVars false
set_option linter.unusedSimpArgs false
set_option linter.unusedVariables false
namespace Go.DN.Pl
open Go.AM Go.PL
def prodR : List Int → Int
 | [] => 1
 | x :: r => prodR r * x
theorem prodF_eq : ∀ (l : List Int) (n : Int), prodF n l = n * prodR l
 | [], n => by simp [prodF, prodR]
 | x :: r, n => by
  rw [show prodF n (x :: r) = prodF (n * x) r from rfl, prodF_eq r, show prodR (x :: r) = prodR r * x from rfl, Int.mul_assoc, Int.mul_comm x]
theorem size_zero {d : List Int} (h : (sizeS d).2 = 0) : d.length ≤ 6 ∧ (∀ x ∈ d, 0 ≤ x ∧ x ≤ 4096) ∧ (hasB d 0 = false → (∀ x ∈ d, 1 ≤ x) ∧ prodR d ≤ 65536 ∧ (sizeS d).1 = prodR d) ∧ (hasB d 0 = true → (sizeS d).1 = 0) := by
  unfold sizeS at h ⊢
  by_cases h6 : d.length > 6
  · rw [if_pos h6] at h; simp at h
  · rw [if_neg h6] at h ⊢
    cases hb : d.any badD with
    | true => rw [hb] at h; simp at h
    | false =>
      have hg := good_dims hb
      rw [hb] at h
      simp only [Bool.false_eq_true, if_false] at h ⊢
      refine ⟨by omega, hg, fun hz => ?_, fun hz => ?_⟩
      · rw [hz] at h ⊢
        simp only [Bool.false_eq_true, if_false] at h ⊢
        by_cases h5 : prodF 1 d > 65536
        · rw [if_pos h5] at h; simp at h
        · rw [if_neg h5]
          rw [prodF_eq, Int.one_mul] at h5 ⊢
          refine ⟨fun x hx => ?_, by omega, rfl⟩
          have := hg x hx
          have : x ≠ 0 := fun e => by
            subst e
            have := hasB_mem.2 hx
            rw [this] at hz; cases hz
          omega
      · rw [hz]; rfl
end Go.DN.Pl
