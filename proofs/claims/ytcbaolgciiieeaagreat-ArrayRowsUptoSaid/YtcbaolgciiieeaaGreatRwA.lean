/-
  Arrays: the plain law of rows: the reference's indices.
-/
import Derived.Test.YtcbaolgciiieeaaGreatAeE
set_option linter.unusedSectionVars false
set_option linter.unusedSimpArgs false
set_option linter.unusedVariables false
set_option maxRecDepth 20000
namespace Go.DN.Pl
open Go.AM Go.PL
def okIx (d a : List Int) : Prop := a.length = d.length ∧ ∀ k, k < d.length → 0 ≤ atI a k ∧ atI a k < atI d k
def rankU (d a : List Int) : Nat → Int
 | 0 => 0
 | k + 1 => rankU d a k * atI d k + atI a k
def prodU (d : List Int) : Nat → Int
 | 0 => 1
 | k + 1 => prodU d k * atI d k
theorem rank_ran {d a : List Int} (h : okIx d a) : ∀ {k : Nat}, k ≤ d.length → 0 ≤ rankU d a k ∧ rankU d a k + 1 ≤ prodU d k
 | 0, _ => by simp [rankU, prodU]
 | k + 1, hk => by
  obtain ⟨i1, i2⟩ := rank_ran h (show k ≤ d.length by omega)
  obtain ⟨a0, a1⟩ := h.2 k (by omega)
  have h1 : 0 ≤ rankU d a k * atI d k := Int.mul_nonneg i1 (by omega)
  have h2 : (rankU d a k + 1) * atI d k ≤ prodU d k * atI d k := Int.mul_le_mul_of_nonneg_right i2 (by omega)
  rw [Int.add_mul, Int.one_mul] at h2
  simp only [rankU, prodU]
  omega
theorem rank_next {d a b : List Int} {j : Nat} (hb : ∀ k, k < j → atI b k = atI a k) (hj : atI b j = atI a j + 1) (hz : ∀ k, j < k → k < d.length → atI b k = 0 ∧ atI a k = atI d k - 1) :
    ∀ {k : Nat}, k ≤ d.length → (k ≤ j → rankU d b k = rankU d a k) ∧ (j < k → rankU d b k = rankU d a k + 1)
  | 0, _ => ⟨fun _ => rfl, fun h => by omega⟩
  | k + 1, hk => by
    obtain ⟨i1, i2⟩ := rank_next hb hj hz (show k ≤ d.length by omega)
    refine ⟨fun h => ?_, fun h => ?_⟩
    · simp only [rankU]
      rw [i1 (by omega), hb k (by omega)]
    · simp only [rankU]
      by_cases e : k = j
      · subst e
        rw [i1 (Nat.le_refl _), hj]; omega
      · obtain ⟨z1, z2⟩ := hz k (by omega) (by omega)
        rw [i2 (by omega), z1, z2, Int.add_mul, Int.one_mul]; omega
theorem prodU_eq : ∀ (d : List Int) (k : Nat), k ≤ d.length → prodU d k * prodR (d.drop k) = prodR d
 | d, 0, _ => by simp [prodU]
 | d, k + 1, h => by
  rw [← prodU_eq d k (by omega)]
  have hk := get_atI (l := d) (show k < d.length by omega)
  have e : d.drop k = atI d k :: d.drop (k + 1) := by
   rw [List.drop_eq_getElem_cons (show k < d.length by omega)]
   congr 1
   have := List.getElem?_eq_getElem (show k < d.length by omega)
   rw [hk] at this
   exact (Option.some.inj this).symm
  rw [e, prodU, prodR, Int.mul_assoc]
  congr 1
  exact Int.mul_comm _ _
theorem prodU_all (d : List Int) : prodU d d.length = prodR d := by
 have := prodU_eq d d.length (Nat.le_refl _)
 rwa [List.drop_length, show prodR [] = 1 from rfl, Int.mul_one] at this
end Go.DN.Pl
