/-
  Arrays: the plain law: what an operation makes is the same in both.
-/
import Derived.Test.YtongekoajbcliaaAeD
set_option linter.unusedSectionVars false
set_option linter.unusedSimpArgs false
set_option linter.unusedVariables false
set_option maxRecDepth 20000
namespace Go.DN.Pl
open Go.AM Go.PL
theorem right_many {k : Int} {n : Nat} (h : rightS k n = 0) : manyS k ≠ -2 ∧ (manyS k ≥ 0 → manyS k = n) ∧ (manyS k = -1 → n ≠ 0) := by
  unfold rightS at h
  split at h
  · omega
  · rename_i h1
    split at h
    · omega
    · rename_i h2
      refine ⟨h1, fun h3 => ?_, fun h3 => ?_⟩
      · apply Classical.byContradiction; intro h4; exact h2 (.inl ⟨h3, h4⟩)
      · intro h4; exact h2 (.inr ⟨h3, h4⟩)
theorem len1 {α : Type} {l : List α} (h : l.length = 1) : ∃ a, l = [a] := by
 match l, h with
 | [a], _ => exact ⟨a, rfl⟩
theorem len2 {α : Type} {l : List α} (h : l.length = 2) : ∃ a b, l = [a, b] := by
 match l, h with
 | [a, b], _ => exact ⟨a, b, rfl⟩
theorem rule_ok (fu : Nat) (op : SOp) (args : List (List Int)) (ho : okOp op) (ha : okArgs args) (hf : 4000000 < fu) (h0 : rightS op.Kind args.length = 0) (h1 : firstW szE args = 0) : ∃ r, RS fu op args r := by
  have hfit : F.array_fits fu op args = some 0 := by rw [fits_ok fu op args ha hf, if_neg (by omega), h1]
  obtain ⟨m1, m2, m3⟩ := right_many h0
  have hz : ∀ a ∈ args, (sizeS a).2 = 0 := firstW_zero h1
  have hl : ∀ a ∈ args, a.length ≤ 6 := fun a h => (size_small (hz a h)).1
  have al := ha.1
  have same : (op.Kind = 3 ∨ op.Kind = 4 ∨ op.Kind = 5 ∨ op.Kind = 6 ∨ op.Kind = 7 ∨ op.Kind = 8) → args ≠ [] → ∃ r, RS fu op args r := fun hk hne => by
    cases args with
    | nil => exact absurd rfl hne
    | cons a r => exact ⟨_, k_same fu op ho hf hk a r (hl a List.mem_cons_self) (fun x hx => hl x (List.mem_cons_of_mem _ hx)) (by simp only [List.length_cons] at al; omega) hfit⟩
  have ne : ∀ {m : Int}, 0 < m → manyS op.Kind = m → args ≠ [] := fun hm h e => by
    subst e; have := m2 (by omega); simp at this; omega
  rcases kinds op.Kind with h | h | h
  · rcases h with h | h | h | h | h | h | h | h | h
    · exact ⟨_, k_fill fu op ho hf h args hfit⟩
    · exact same (by omega) (ne (m := 2) (by omega) (by rw [h]; rfl))
    · exact same (by omega) (ne (m := 2) (by omega) (by rw [h]; rfl))
    · exact same (by omega) (ne (m := 2) (by omega) (by rw [h]; rfl))
    · exact same (by omega) (ne (m := 2) (by omega) (by rw [h]; rfl))
    · exact same (by omega) (ne (m := 2) (by omega) (by rw [h]; rfl))
    · exact same (by omega) (ne (m := 3) (by omega) (by rw [h]; rfl))
    · obtain ⟨a, rfl⟩ := len1 (l := args) (by have := m2 (by rw [h]; decide); rw [h, show manyS 9 = 1 from rfl] at this; omega)
      exact ⟨_, k_look fu op ho hf (by omega) a [] (hz a List.mem_cons_self) hfit⟩
    · obtain ⟨a, rfl⟩ := len1 (l := args) (by have := m2 (by rw [h]; decide); rw [h, show manyS 10 = 1 from rfl] at this; omega)
      exact ⟨_, k_sum fu op ho hf h a [] (hl a List.mem_cons_self) hfit⟩
  · rcases h with h | h | h | h | h | h | h | h | h
    · obtain ⟨a, rfl⟩ := len1 (l := args) (by have := m2 (by rw [h]; decide); rw [h, show manyS 11 = 1 from rfl] at this; omega)
      exact ⟨_, k_look fu op ho hf (by omega) a [] (hz a List.mem_cons_self) hfit⟩
    · obtain ⟨a, rfl⟩ := len1 (l := args) (by have := m2 (by rw [h]; decide); rw [h, show manyS 12 = 1 from rfl] at this; omega)
      exact ⟨_, k_form fu op ho hf h a [] (hz a List.mem_cons_self) hfit⟩
    · obtain ⟨a, rfl⟩ := len1 (l := args) (by have := m2 (by rw [h]; decide); rw [h, show manyS 13 = 1 from rfl] at this; omega)
      exact ⟨_, k_look fu op ho hf (by omega) a [] (hz a List.mem_cons_self) hfit⟩
    · obtain ⟨a, rfl⟩ := len1 (l := args) (by have := m2 (by rw [h]; decide); rw [h, show manyS 14 = 1 from rfl] at this; omega)
      exact ⟨_, k_pad fu op ho hf h a [] (hz a List.mem_cons_self) hfit⟩
    · obtain ⟨a, rfl⟩ := len1 (l := args) (by have := m2 (by rw [h]; decide); rw [h, show manyS 15 = 1 from rfl] at this; omega)
      exact ⟨_, k_look fu op ho hf (by omega) a [] (hz a List.mem_cons_self) hfit⟩
    · obtain ⟨a, b, rfl⟩ := len2 (l := args) (by have := m2 (by rw [h]; decide); rw [h, show manyS 16 = 2 from rfl] at this; omega)
      exact ⟨_, k_dot fu op ho hf h a b [] (hl a List.mem_cons_self) (hl b (List.mem_cons_of_mem _ List.mem_cons_self)) hfit⟩
    · cases args with
      | nil => exact absurd rfl (m3 (by rw [h]; rfl))
      | cons a r => exact ⟨_, k_join fu op ho hf h a r hz (by simp only [List.length_cons] at al; omega) hfit⟩
    · obtain ⟨a, b, rfl⟩ := len2 (l := args) (by have := m2 (by rw [h]; decide); rw [h, show manyS 18 = 2 from rfl] at this; omega)
      exact ⟨_, k_take fu op ho hf h a b [] (hl a List.mem_cons_self) (hl b (List.mem_cons_of_mem _ List.mem_cons_self)) hfit⟩
    · obtain ⟨a, b, rfl⟩ := len2 (l := args) (by have := m2 (by rw [h]; decide); rw [h, show manyS 19 = 2 from rfl] at this; omega)
      exact ⟨_, k_put fu op ho hf h a b [] (hl a List.mem_cons_self) (hl b (List.mem_cons_of_mem _ List.mem_cons_self)) hfit⟩
  · exfalso
    apply m1
    have ne : ∀ c : Int, 2 ≤ c → c ≤ 19 → (op.Kind == c) = false := fun c h1 h2 => by simp; omega
    unfold manyS
    simp only [ne 2 (by omega) (by omega), ne 3 (by omega) (by omega), ne 4 (by omega) (by omega), ne 5 (by omega) (by omega), ne 6 (by omega) (by omega), ne 7 (by omega) (by omega), ne 8 (by omega) (by omega), ne 9 (by omega) (by omega), ne 10 (by omega) (by omega), ne 11 (by omega) (by omega), ne 12 (by omega) (by omega), ne 13 (by omega) (by omega), ne 14 (by omega) (by omega), ne 15 (by omega) (by omega), ne 16 (by omega) (by omega), ne 17 (by omega) (by omega), ne 18 (by omega) (by omega), ne 19 (by omega) (by omega), Bool.or_false, cond_false]
theorem dims_same (fu : Nat) (op : SOp) (args : List (List Int)) (ho : okOp op) (ha : okArgs args) (hf : 4000000 < fu) :
    ∃ r : List Int × Int, F.array_Dims fu op args = some r ∧ F.adjointref2_Dims fu op args = some r ∧ r.1.length ≤ 6 ∧ (r.2 = 0 → (sizeS r.1).2 = 0 ∧ rightS op.Kind args.length = 0 ∧ firstW szE args = 0 ∧ ∃ q, RS fu op args q ∧ r = finS q) := by
  by_cases h0 : rightS op.Kind args.length = 0
  · by_cases h1 : firstW szE args = 0
    · obtain ⟨r, r1, r2, r3⟩ := rule_ok fu op args ho ha hf h0 h1
      refine ⟨finS r, r1, dims2_of fu op args ha h0 h1 r r2 r3 hf, finS_len r, fun h => ⟨?_, h0, h1, r, ⟨r1, r2, r3⟩, rfl⟩⟩
      unfold finS at h ⊢
      split at h
      · rename_i h2; simp at h; omega
      · rename_i h2
        split at h
        · rename_i h3; simp at h; omega
        · rename_i h3
          rw [if_neg h2, if_neg h3]
          exact Classical.byContradiction fun h4 => h3 h4
    · refine ⟨([], firstW szE args), ?_, ?_, by simp, fun h => absurd h h1⟩
      · unfold F.array_Dims
        rw [fits_ok fu op args ha hf, if_neg (by omega)]
        simp only [Option.bind_some, bne_true h1, cond_true]
      · unfold F.adjointref2_Dims
        rw [right_ok, h0]
        simp only [Option.bind_some]
        have hl := loop_find (body := F.adjointref2_Dims_l1 fu args) args (fun k => (k : Int)) (fun a => (errI (szE a)).map fun e => (([] : List Int), e))
          (fun k x hx => by
            have hw := wrap_succ (get_lt hx) (by have := ha.1; omega)
            simp only [F.adjointref2_Dims_l1, dec_lt hx, cond_true, idx_nat hx, Option.bind_some, hw, refSize_ok fu x (by have := ha.2 x (List.mem_of_getElem? hx); omega) hf]
            unfold szE
            by_cases h : (sizeS x).2 = 0
            · rw [bne_false h, h, errI_zero]; rfl
            · rw [bne_true h, errI_pos h]; rfl)
          (by simp only [F.adjointref2_Dims_l1, dec_end, cond_false]) fu (by have := ha.1; omega)
        rw [show ((0 : Nat) : Int) = 0 from rfl] at hl
        have hl2 : (args.findSome? fun a => (errI (szE a)).map fun e => (([] : List Int), e)) = (errI (firstW szE args)).map fun e => (([] : List Int), e) := by
          rw [← firstW_find]
          clear hl h1 h0 ha
          induction args with
          | nil => rfl
          | cons x r ih =>
            rw [List.findSome?_cons, List.findSome?_cons]
            cases errI (szE x) with
            | none => exact ih
            | some e => rfl
        rw [hl2, errI_pos h1] at hl
        rw [show ((0 : Int) != 0) = false from rfl, cond_false, hl]
        rfl
  · refine ⟨([], rightS op.Kind args.length), ?_, ?_, by simp, fun h => absurd h h0⟩
    · unfold F.array_Dims
      rw [fits_ok fu op args ha hf, if_pos h0]
      simp only [Option.bind_some, bne_true h0, cond_true]
    · unfold F.adjointref2_Dims
      rw [right_ok]
      simp only [Option.bind_some, bne_true h0, cond_true]
end Go.DN.Pl
