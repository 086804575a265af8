/-
  Nest: the plain law: the reference's judgement; memory copied and compared; the law.
-/
import Derived.Test.YtfkigaldejbeiaaOtG
set_option linter.unusedSectionVars false
set_option linter.unusedSimpArgs false
set_option linter.unusedVariables false
namespace Go.DN
open Go.AM
theorem firstW_zero : ∀ {l : List Int}, firstW l = 0 → ∀ v ∈ l, v = 0
  | [], _, _, h => by cases h
  | x :: r, h, v, hm => by
    unfold firstW at h
    split at h
    · rename_i hx; exact absurd h hx
    · rename_i hx
      rcases List.mem_cons.1 hm with rfl | hm
      · exact Classical.not_not.1 hx
      · exact firstW_zero h v hm
theorem good_all {n : SNest} (h : wN n = 0) : n.Stmts.length ≤ 256 ∧ (∀ x ∈ n.Sizes, 0 ≤ x ∧ x ≤ 65536) ∧ ∀ s ∈ n.Stmts, GoodS n s := by
  unfold wN at h
  split at h
  · cases h
  · rename_i hl
    split at h
    · cases h
    · rename_i hb
      simp only [Bool.not_eq_true] at hb
      refine ⟨by omega, fun x hx => ?_, fun s hs => ?_⟩
      · have := List.any_eq_false.1 hb x hx
        simp [badZ] at this
        omega
      · have h0 := firstW_zero h (stmtW n s) (List.mem_map.2 ⟨s, hs, rfl⟩)
        unfold stmtW at h0
        split at h0
        · rename_i h1; exact absurd h0 h1
        · rename_i h1
          have h1 := Classical.not_not.1 h1
          split at h0
          · cases h0
          · split at h0
            · cases h0
            · rename_i h3
              have h3 := Classical.not_not.1 h3
              have hacc : ∀ a ∈ s.Put :: s.Get, GoodA n s.Over a := fun a ha => by
                have := firstW_zero h0 _ (List.mem_map.2 ⟨a, ha, rfl⟩)
                unfold accW at this
                split at this
                · cases this
                · rename_i hn
                  exact ⟨by omega, by omega, this⟩
              exact ⟨h1, good_of h1, h3, hacc _ List.mem_cons_self, fun a ha => hacc a (List.mem_cons_of_mem _ ha)⟩
end Go.DN
