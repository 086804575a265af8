/-
  Points: the plain law: the reference's list of points; rounds; the walk.
-/
import Derived.Test.YtfkigaldejbeiaaOtB
set_option linter.unusedSectionVars false
set_option linter.unusedSimpArgs false
set_option linter.unusedVariables false
namespace Go.DN
open Go.AM
set_option linter.unusedVariables false
def len0 : List Int → Nat
 | [] => 1
 | n :: r => n.toNat * len0 r
theorem mem_ran {p : SPoints} (g : Good p) {q : List Int} (h : q ∈ ext p.Box []) : Ran q ∧ q.length = p.Box.length := by
 obtain ⟨t, rfl, ht⟩ := mem_ext.1 h
 refine ⟨fun y hy => ?_, ht.len⟩
 obtain ⟨i, hi, rfl⟩ := List.getElem_of_mem hy
 have h1 := ht.at i (by rw [← ht.len]; exact hi)
 have h2 := g.box _ (getD_mem (l := p.Box) (i := i) (by rw [← ht.len]; exact hi))
 rw [List.getD_eq_getElem?_getD, List.getElem?_eq_getElem hi, Option.getD_some] at h1
 omega
def runY {σ : Type} (y : List Int → σ → σ × Jp) : List (List Int) → σ → σ × Jp
 | [], s => (s, .go)
 | x :: r, s => if (y x s).2 = .go then runY y r (y x s).1 else y x s
theorem runY_append {σ : Type} (y : List Int → σ → σ × Jp) : ∀ (a b : List (List Int)) (s : σ), runY y (a ++ b) s = if (runY y a s).2 = .go then runY y b (runY y a s).1 else runY y a s
  | [], b, s => by simp [runY]
  | x :: a, b, s => by
    simp only [List.cons_append, runY]
    by_cases h : (y x s).2 = .go
    · simp only [h, if_true]
      exact runY_append y a b _
    · simp only [h, if_false]
theorem walk_loop {σ τ ρ : Type} {body : τ → Option (τ ⊕ ρ)} (st : List Int → σ → τ) (brk : List Int → σ → ρ) (ret : List Int → σ → Jp → ρ) (y : List Int → σ → σ × Jp) (L N k : Nat) (E : Nat → List (List Int)) (pre : List Int) (hkL : k < L) (hN : N ≤ 4096)
    (hstep : ∀ (i : Nat) (x : List Int) (s : σ), i < N → x.length = L → Ran x → x.take k = pre → x.getD k 0 = (i : Int) → ∃ x' : List Int, x'.length = L ∧ Ran x' ∧ x'.take k = pre ∧
      body (st x s) = some (if (runY y (E i) s).2 = .go then .inl (st (x'.set k ((i + 1 : Nat) : Int)) (runY y (E i) s).1) else .inr (ret x' (runY y (E i) s).1 (runY y (E i) s).2)))
    (hend : ∀ (x : List Int) (s : σ), x.length = L → x.getD k 0 = (N : Int) → body (st x s) = some (.inr (brk x s)))
    (fu : Nat) (x : List Int) (s : σ) (hl : x.length = L) (hr : Ran x) (ht : x.take k = pre) (h0 : x.getD k 0 = 0) (hf : N < fu) :
    ∃ x' : List Int, x'.length = L ∧ Ran x' ∧ x'.take k = pre ∧ loopF body fu (st x s) = some (if (runY y ((List.range N).flatMap E) s).2 = .go then brk x' (runY y ((List.range N).flatMap E) s).1 else ret x' (runY y ((List.range N).flatMap E) s).1 (runY y ((List.range N).flatMap E) s).2) := by
  have key : ∀ (m i fuel : Nat) (x : List Int) (s : σ), i + m = N → m < fuel → x.length = L → Ran x → x.take k = pre → x.getD k 0 = (i : Int) →
      ∃ x' : List Int, x'.length = L ∧ Ran x' ∧ x'.take k = pre ∧ loopF body fuel (st x s) = some (if (runY y ((List.range' i m).flatMap E) s).2 = .go then brk x' (runY y ((List.range' i m).flatMap E) s).1 else ret x' (runY y ((List.range' i m).flatMap E) s).1 (runY y ((List.range' i m).flatMap E) s).2) := by
    intro m
    induction m with
    | zero =>
      intro i fuel x s h1 h2 hl hr ht hi
      obtain ⟨fuel, rfl⟩ : ∃ f, fuel = f + 1 := ⟨fuel - 1, by omega⟩
      have : i = N := by omega
      subst this
      refine ⟨x, hl, hr, ht, ?_⟩
      simp only [loopF, hend x s hl hi, List.range'_zero, List.flatMap_nil, runY, if_true]
    | succ m ih =>
      intro i fuel x s h1 h2 hl hr ht hi
      obtain ⟨fuel, rfl⟩ : ∃ f, fuel = f + 1 := ⟨fuel - 1, by omega⟩
      obtain ⟨x1, a1, a2, a3, a4⟩ := hstep i x s (by omega) hl hr ht hi
      rw [List.range'_succ, List.flatMap_cons, runY_append]
      by_cases hg : (runY y (E i) s).2 = .go
      · rw [if_pos hg] at a4
        obtain ⟨x2, b1, b2, b3, b4⟩ := ih (i + 1) fuel (x1.set k ((i + 1 : Nat) : Int)) (runY y (E i) s).1 (by omega) (by omega) (by rw [List.length_set]; exact a1)
          (fun z hz => by
            rcases List.mem_or_eq_of_mem_set hz with h | h
            · exact a2 z h
            · subst h; omega)
          (by rw [List.take_set, List.set_eq_of_length_le (by rw [List.length_take]; omega)]; exact a3)
          (by rw [List.getD_eq_getElem?_getD, List.getElem?_set_self (by omega)]; rfl)
        refine ⟨x2, b1, b2, b3, ?_⟩
        simp only [loopF, a4, hg, if_true]
        exact b4
      · rw [if_neg hg] at a4
        refine ⟨x1, a1, a2, a3, ?_⟩
        simp only [loopF, a4, hg, if_false]
  have := key N 0 fu x s (by omega) hf hl hr ht h0
  rw [← List.range_eq_range'] at this
  exact this
theorem clone_ok (fu : Nat) (s : List Int) (h : s.length ≤ 65536) : F.slices_Clone_2 fu s = some s := by
  have c := chk_pos (p := (List.length ([] : (List Int))) + (List.length s) ≤ maxLen ∧ ((List.length ([] : (List Int))) + (List.length s)) * 8 ≤ 140737488355328) (by simp only [List.length_nil, maxLen]; omega)
  unfold F.slices_Clone_2 nilF
  simp only [c, Option.bind_some, List.nil_append]
  split
  · rename_i h0
    have : s = [] := List.eq_nil_of_length_eq_zero (by omega)
    subst this
    simp
  · rfl
theorem clone2_ok (fu : Nat) (s : List Int) (h : s.length ≤ 65536) : F.slices_Clone fu s = some s := by
  have c := chk_pos (p := (List.length ([] : (List Int))) + (List.length s) ≤ maxLen ∧ ((List.length ([] : (List Int))) + (List.length s)) * 8 ≤ 140737488355328) (by simp only [List.length_nil, maxLen]; omega)
  unfold F.slices_Clone nilF
  simp only [c, Option.bind_some, List.nil_append]
  split
  · rename_i h0
    have : s = [] := List.eq_nil_of_length_eq_zero (by omega)
    subst this
    simp
  · rfl
theorem filter_ext_cons (f : List Int → Bool) (n : Int) (r pre : List Int) : (ext (n :: r) pre).filter f = (List.range n.toNat).flatMap fun (i : Nat) => (ext r (pre ++ [(i : Int)])).filter f := by
 simp only [ext, List.filter_flatMap]
end Go.DN
