/-
  Arrays: the plain law: views cut, flipped.
-/
import Derived.Test.YtcbaolgciiieeaaGreatAdY
set_option linter.unusedSectionVars false
set_option linter.unusedSimpArgs false
set_option linter.unusedVariables false
namespace Go.DN.Pl
open Go.AM Go.PL
theorem sizeS_ok {d : List Int} (h6 : d.length ≤ 6) (hg : ∀ x ∈ d, 0 ≤ x ∧ x ≤ 4096) (hp : hasB d 0 = false → prodR d ≤ 65536) : (sizeS d).2 = 0 := by
 unfold sizeS
 rw [if_neg (by omega)]
 have hb : d.any badD = false := by
  rw [List.any_eq_false]
  intro x hx
  have := hg x hx
  simp [badD]
  omega
 rw [hb]
 simp only [Bool.false_eq_true, if_false]
 cases hz : hasB d 0 with
 | true => rfl
 | false =>
  have := hp hz
  simp only [Bool.false_eq_true, if_false]
  rw [if_neg (by rw [prodF_eq]; omega)]
theorem prodR_le : ∀ (a b : List Int), a.length = b.length → (∀ k, k < a.length → 1 ≤ atI a k ∧ atI a k ≤ atI b k) → 1 ≤ prodR a ∧ prodR a ≤ prodR b
 | [], [], _, _ => by simp [prodR]
 | [], _ :: _, h, _ => by simp at h
 | _ :: _, [], h, _ => by simp at h
 | x :: r, y :: s, hl, h => by
  have h1 : 1 ≤ x ∧ x ≤ y := h 0 (by simp)
  have h2 := prodR_le r s (by simpa using hl) fun k hk => h (k + 1) (by simpa using hk)
  rw [show prodR (x :: r) = prodR r * x from rfl, show prodR (y :: s) = prodR s * y from rfl]
  have a1 := Int.mul_le_mul h2.2 h1.2 (by omega) (by omega)
  have a2 := Int.mul_le_mul h2.1 h1.1 (by omega) (by omega)
  omega
theorem shrink {d e : List Int} (h : (sizeS d).2 = 0) (hl : e.length = d.length) (he : ∀ k, k < e.length → 0 ≤ atI e k ∧ atI e k ≤ atI d k) : (sizeS e).2 = 0 := by
  obtain ⟨h6, hg, hp, _⟩ := size_zero h
  refine sizeS_ok (by omega) (fun x hx => ?_) fun hz => ?_
  · obtain ⟨k, hk⟩ := List.getElem?_of_mem hx
    have h1 := he k (get_lt hk)
    have h2 := hg _ (List.mem_of_getElem? (get_atI (l := d) (show k < d.length by have := get_lt hk; omega)))
    rw [atI_get hk] at h1
    omega
  · have hne : ∀ k, k < e.length → 1 ≤ atI e k := fun k hk => by
      have h1 := he k hk
      have : atI e k ≠ 0 := fun e0 => by
        have := hasB_mem.2 (List.mem_of_getElem? (get_atI hk))
        rw [e0, hz] at this; cases this
      omega
    have hz2 : hasB d 0 = false := by
      cases hh : hasB d 0 with
      | false => rfl
      | true =>
        obtain ⟨k, hk⟩ := List.getElem?_of_mem (hasB_mem.1 hh)
        have h1 := he k (by have := get_lt hk; omega)
        have h2 := hne k (by have := get_lt hk; omega)
        rw [atI_get hk] at h1; omega
    have := prodR_le e d hl fun k hk => ⟨hne k hk, (he k hk).2⟩
    have := (hp hz2).2.1
    omega
end Go.DN.Pl
