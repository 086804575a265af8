/-
  Arrays: the plain law: numbers of dimensions.
-/
import Derived.Test.YtcbaolgciiieeaaAdQ
set_option linter.unusedSectionVars false
set_option linter.unusedSimpArgs false
set_option linter.unusedVariables false
namespace Go.DN.Pl
open Go.AM Go.PL
def atI (l : List Int) (k : Nat) : Int := l.getD k 0
theorem atI_get {l : List Int} {k : Nat} {x : Int} (h : l[k]? = some x) : atI l k = x := by unfold atI; rw [List.getD_eq_getElem?_getD, h]; rfl
theorem get_atI {l : List Int} {k : Nat} (h : k < l.length) : l[k]? = some (atI l k) := by rw [atI_get (List.getElem?_eq_getElem h)]; exact List.getElem?_eq_getElem h
def badO (l : List Int) (rank : Nat) (k : Nat) : Bool := decide (atI l k < 0) || (decide (atI l k ≥ (rank : Int)) || hasB (l.take k) (atI l k))
def onceB (l : List Int) (rank : Nat) : Bool := !((List.range l.length).any (badO l rank))
theorem onceB_iff {l : List Int} {rank : Nat} : onceB l rank = true ↔ (∀ x ∈ l, 0 ≤ x ∧ x < (rank : Int)) ∧ l.Nodup := by
  unfold onceB
  rw [Bool.not_eq_true', any_range]
  constructor
  · intro h
    have h' : ∀ k, k < l.length → ¬ atI l k < 0 ∧ ¬ atI l k ≥ (rank : Int) ∧ hasB (l.take k) (atI l k) = false := fun k hk => by
      have := h k hk
      simpa [badO] using this
    refine ⟨fun x hx => ?_, ?_⟩
    · obtain ⟨k, hk⟩ := List.getElem?_of_mem hx
      have := h' k (get_lt hk)
      rw [atI_get hk] at this
      omega
    · rw [List.nodup_iff_pairwise_ne, List.pairwise_iff_getElem]
      intro i j hi hj hij e
      have h3 := (h' j hj).2.2
      have h4 : atI l j ∈ l.take j := by
        rw [atI_get (List.getElem?_eq_getElem hj), ← e]
        exact List.mem_iff_getElem?.2 ⟨i, by rw [List.getElem?_take, if_pos hij]; exact List.getElem?_eq_getElem hi⟩
      rw [hasB_mem.2 h4] at h3
      cases h3
  · rintro ⟨h1, h2⟩ k hk
    have hx := get_atI hk
    have hr := h1 _ (List.mem_of_getElem? hx)
    have h3 : hasB (l.take k) (atI l k) = false := by
      cases hh : hasB (l.take k) (atI l k) with
      | false => rfl
      | true =>
        exfalso
        obtain ⟨i, hi⟩ := List.getElem?_of_mem (hasB_mem.1 hh)
        rw [List.getElem?_take] at hi
        split at hi
        · rename_i hik
          rw [List.nodup_iff_pairwise_ne, List.pairwise_iff_getElem] at h2
          have hil := get_lt hi
          refine h2 i k hil hk hik ?_
          have e1 := (List.getElem?_eq_some_iff.1 hi).2
          have e2 := (List.getElem?_eq_some_iff.1 hx).2
          rw [e1, e2]
        · cases hi
    simp only [badO, h3, Bool.or_false]
    rw [dec_false (by omega), dec_false (by omega)]
    rfl
theorem onceB_comm (a b : List Int) (rank : Nat) : onceB (a ++ b) rank = onceB (b ++ a) rank := by
  rw [Bool.eq_iff_iff, onceB_iff, onceB_iff]
  have e : (a ++ b).Nodup ↔ (b ++ a).Nodup := List.Perm.nodup_iff List.perm_append_comm
  constructor
  · rintro ⟨h1, h2⟩
    exact ⟨fun x hx => h1 x (by rcases List.mem_append.1 hx with h | h <;> simp [h]), e.1 h2⟩
  · rintro ⟨h1, h2⟩
    exact ⟨fun x hx => h1 x (by rcases List.mem_append.1 hx with h | h <;> simp [h]), e.2 h2⟩
theorem once_ok (fu : Nat) (l : List Int) (rank : Nat) (hl : l.length ≤ 4000000) (hf : 4000000 < fu) : F.adjointref2_once fu l rank = some (onceB l rank) := by
 unfold F.adjointref2_once onceB
 have h := loop_at (body := F.adjointref2_once_l1 fu l rank) l.length (fun k => (k : Int)) (fun k => if badO l rank k then some (Ex.ret false : Ex Unit Bool) else none) (Ex.brk ())
  (fun k hk _ => by
   have hx := get_atI hk
   have hw := wrap_succ hk (by omega)
   have hp : lpart l 0 (k : Int) = l.take k := by unfold lpart; simp
   have hc : chk ((0 : Int) ≤ (k : Int) ∧ (k : Int) ≤ (l.length : Int)) = some () := chk_pos (by omega)
   simp only [F.adjointref2_once_l1, dec_lt hx, cond_true, idx_nat hx, hc, Option.bind_some, hp, has2_ok fu (l.take k) _ (by rw [List.length_take]; omega) hf, cc, hw]
   unfold badO
   cases (decide (atI l k < 0) || (decide (atI l k ≥ (rank : Int)) || hasB (l.take k) (atI l k))) <;> rfl)
  (fun _ => by simp only [F.adjointref2_once_l1, dec_end, cond_false]) fu (by omega)
 rw [show ((0 : Nat) : Int) = 0 from rfl] at h
 rw [h, findCst]
 cases (List.range l.length).any (badO l rank) <;> rfl
def seenL (rank : Nat) (p : List Int) : List Bool := (List.range rank).map fun (q : Nat) => hasB p (q : Int)
theorem seenL_get {rank : Nat} {p : List Int} {q : Nat} (h : q < rank) : (seenL rank p)[q]? = some (hasB p q) := by
 unfold seenL
 rw [List.getElem?_map, List.getElem?_range h]; rfl
theorem seenL_nil (rank : Nat) : seenL rank [] = List.replicate rank false := by
 unfold seenL
 apply List.ext_getElem?
 intro i
 rw [List.getElem?_map, List.getElem?_replicate]
 by_cases h : i < rank
 · rw [if_pos h, List.getElem?_range h]; rfl
 · rw [if_neg h, List.getElem?_eq_none (by simp; omega)]; rfl
theorem seenL_set {rank : Nat} {p : List Int} {x : Int} (h0 : 0 ≤ x) (h1 : x < (rank : Int)) : (seenL rank p).set x.toNat true = seenL rank (p ++ [x]) := by
  apply List.ext_getElem?
  intro i
  rw [List.getElem?_set]
  have hlen : (seenL rank p).length = rank := by unfold seenL; simp
  by_cases h : i < rank
  · rw [seenL_get h]
    by_cases e : x.toNat = i
    · rw [if_pos e, if_pos (by omega)]
      have : hasB (p ++ [x]) (i : Int) = true := hasB_mem.2 (by simp; right; omega)
      rw [seenL_get h, this]
    · rw [if_neg e, seenL_get h]
      congr 1
      unfold hasB
      rw [List.any_append]
      have : ([x].any fun y => y == (i : Int)) = false := by simp; omega
      rw [this, Bool.or_false]
  · rw [List.getElem?_eq_none (by unfold seenL; simp; omega)]
    by_cases e : x.toNat = i
    · omega
    · rw [if_neg e]
      rw [List.getElem?_eq_none (show (seenL rank (p ++ [x])).length ≤ i by unfold seenL; simp; omega)]
theorem distinct_ok (fu : Nat) (l : List Int) (rank : Nat) (hl : l.length ≤ 4000000) (hr : rank ≤ 4000000) (hf : 4000000 < fu) : F.array_distinct fu l rank = some (onceB l rank) := by
  unfold F.array_distinct onceB
  have h := loop_at (body := F.array_distinct_l1 fu l rank) l.length (fun k => ((k : Int), seenL rank (l.take k))) (fun k => if badO l rank k then some (Ex.ret false : Ex (List Bool) Bool) else none) (Ex.brk (seenL rank l))
    (fun k hk _ => by
      have hx := get_atI hk
      have hw := wrap_succ hk (by omega)
      simp only [F.array_distinct_l1, dec_lt hx, cond_true, idx_nat hx, Option.bind_some, hw]
      unfold badO
      by_cases h1 : atI l k < 0
      · simp only [dec_true h1, cond_true, Option.bind_some, Bool.true_or, if_true]
      · by_cases h2 : atI l k ≥ (rank : Int)
        · simp only [dec_false h1, dec_true h2, cond_false, cond_true, Option.bind_some, Bool.true_or, Bool.or_true, if_true]
        · obtain ⟨q, hq⟩ : ∃ q : Nat, atI l k = q := ⟨(atI l k).toNat, by omega⟩
          have hs := seenL_get (p := l.take k) (show q < rank by omega)
          rw [hq] at h1 h2
          simp only [hq, dec_false h1, dec_false h2, cond_false, Bool.false_or, idx_nat hs, Option.bind_some]
          cases hh : hasB (l.take k) (q : Int) with
          | true => rfl
          | false =>
            have e : (seenL rank (l.take k)).set (q : Int).toNat true = seenL rank (l.take (k + 1)) := by
              rw [seenL_set (by omega) (by omega), take_succ hx, hq]
            simp only [cond_false, e, Bool.false_eq_true, if_false])
    (fun _ => by simp only [F.array_distinct_l1, dec_end, cond_false, List.take_length]) fu (by omega)
  rw [List.take_zero, seenL_nil] at h
  rw [show ((0 : Nat) : Int) = 0 from rfl] at h
  rw [chk_pos (by omega)]
  simp only [Option.bind_some, Int.toNat_natCast]
  rw [h, findCst]
  cases (List.range l.length).any (badO l rank) <;> rfl
def badR (l : List Int) (rank : Nat) (k : Nat) : Bool := decide (atI l k < 0) || (decide (atI l k ≥ (rank : Int)) || (decide (k > 0) && decide (atI l k ≤ atI l (k - 1))))
def risB (l : List Int) (rank : Nat) : Bool := !((List.range l.length).any (badR l rank))
theorem risB_iff {l : List Int} {rank : Nat} : risB l rank = true ↔ (∀ k, k < l.length → 0 ≤ atI l k ∧ atI l k < (rank : Int)) ∧ ∀ k, k + 1 < l.length → atI l k < atI l (k + 1) := by
  unfold risB
  rw [Bool.not_eq_true', any_range]
  constructor
  · intro h
    have h' : ∀ k, k < l.length → ¬ atI l k < 0 ∧ ¬ atI l k ≥ (rank : Int) ∧ (k > 0 → ¬ atI l k ≤ atI l (k - 1)) := fun k hk => by
      have := h k hk
      simp only [badR, Bool.or_eq_false_iff, Bool.and_eq_false_imp, decide_eq_false_iff_not, decide_eq_true_eq] at this
      exact this
    refine ⟨fun k hk => by have := h' k hk; omega, fun k hk => ?_⟩
    have := (h' (k + 1) hk).2.2 (by omega)
    rw [Nat.add_sub_cancel] at this
    omega
  · rintro ⟨h1, h2⟩ k hk
    have := h1 k hk
    simp only [badR, Bool.or_eq_false_iff, Bool.and_eq_false_imp, decide_eq_false_iff_not, decide_eq_true_eq]
    refine ⟨by omega, by omega, fun hk0 => ?_⟩
    have := h2 (k - 1) (by omega)
    rw [show k - 1 + 1 = k by omega] at this
    omega
theorem rising1_ok (fu : Nat) (l : List Int) (rank : Nat) (hl : l.length ≤ 4000000) (hf : 4000000 < fu) : F.adjointref1_Rising fu l rank = some (risB l rank) := by
  unfold F.adjointref1_Rising risB
  have h := loop_at (body := F.adjointref1_Rising_l1 fu l rank) l.length (fun k => (k : Int)) (fun k => if badR l rank k then some (Ex.ret false : Ex Unit Bool) else none) (Ex.brk ())
    (fun k hk _ => by
      have hx := get_atI hk
      have hw := wrap_succ hk (by omega)
      simp only [F.adjointref1_Rising_l1, dec_lt hx, cond_true, idx_nat hx, Option.bind_some, hw]
      unfold badR
      by_cases h0 : k > 0
      · have hy := get_atI (l := l) (show k - 1 < l.length by omega)
        have hw2 : IntKind.i64.wrap ((k : Int) - 1) = ((k - 1 : Nat) : Int) := by rw [i64 (by omega) (by omega)]; omega
        rw [dec_true (show (k : Int) > 0 by omega), dec_true h0, hw2, idx_nat hy]
        simp only [cond_true, Option.bind_some, cc, Bool.true_and]
        cases (decide (atI l k < 0) || (decide (atI l k ≥ (rank : Int)) || decide (atI l k ≤ atI l (k - 1)))) <;> rfl
      · rw [dec_false (show ¬ (k : Int) > 0 by omega), dec_false h0]
        simp only [cond_false, cc, Bool.false_and, Bool.or_false, Option.bind_some]
        cases (decide (atI l k < 0) || decide (atI l k ≥ (rank : Int))) <;> rfl)
    (fun _ => by simp only [F.adjointref1_Rising_l1, dec_end, cond_false]) fu (by omega)
  rw [show ((0 : Nat) : Int) = 0 from rfl] at h
  rw [h, findCst]
  cases (List.range l.length).any (badR l rank) <;> rfl
def lastI (l : List Int) : Nat → Int
 | 0 => -1
 | k + 1 => atI l k
theorem risingV_ok (fu : Nat) (l : List Int) (rank : Nat) (hl : l.length ≤ 4000000) (hf : 4000000 < fu) : F.view_rising fu l rank = some (risB l rank) := by
  unfold F.view_rising
  have h := loop_at (body := F.view_rising_l1 fu l rank) l.length (fun k => (lastI l k, (k : Int))) (fun k => if (decide (atI l k ≤ lastI l k) || decide (atI l k ≥ (rank : Int))) then some (Ex.ret false : Ex Unit Bool) else none) (Ex.brk ())
    (fun k hk _ => by
      have hx := get_atI hk
      have hw := wrap_succ hk (by omega)
      simp only [F.view_rising_l1, dec_lt hx, cond_true, idx_nat hx, Option.bind_some, hw, cc]
      cases (decide (atI l k ≤ lastI l k) || decide (atI l k ≥ (rank : Int))) <;> rfl)
    (fun _ => by simp only [F.view_rising_l1, dec_end, cond_false]) fu (by omega)
  rw [show ((0 : Nat) : Int) = 0 from rfl, show lastI l 0 = -1 from rfl] at h
  rw [h, findCst]
  have e : risB l rank = !((List.range l.length).any fun k => decide (atI l k ≤ lastI l k) || decide (atI l k ≥ (rank : Int))) := by
    rw [Bool.eq_iff_iff, risB_iff, Bool.not_eq_true', any_range]
    constructor
    · rintro ⟨h1, h2⟩ k hk
      have := h1 k hk
      rw [Bool.or_eq_false_iff, decide_eq_false_iff_not, decide_eq_false_iff_not]
      refine ⟨?_, by omega⟩
      cases k with
      | zero => show ¬ atI l 0 ≤ -1; omega
      | succ k => have := h2 k hk; show ¬ atI l (k + 1) ≤ atI l k; omega
    · intro h
      have h' : ∀ k, k < l.length → ¬ atI l k ≤ lastI l k ∧ ¬ atI l k ≥ (rank : Int) := fun k hk => by
        have := h k hk
        rw [Bool.or_eq_false_iff, decide_eq_false_iff_not, decide_eq_false_iff_not] at this
        exact this
      have h2 : ∀ k, k + 1 < l.length → atI l k < atI l (k + 1) := fun k hk => by
        have : ¬ atI l (k + 1) ≤ atI l k := (h' (k + 1) hk).1
        omega
      have h0 : ∀ k, k < l.length → 0 ≤ atI l k := by
        intro k
        induction k with
        | zero => intro hk; have : ¬ atI l 0 ≤ -1 := (h' 0 hk).1; omega
        | succ k ih => intro hk; have := ih (by omega); have := h2 k hk; omega
      exact ⟨fun k hk => ⟨h0 k hk, by have := (h' k hk).2; omega⟩, h2⟩
  rw [e]
  cases (List.range l.length).any fun k => decide (atI l k ≤ lastI l k) || decide (atI l k ≥ (rank : Int)) <;> rfl
end Go.DN.Pl
