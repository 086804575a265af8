/-
  Arrays: the plain law: kind by kind.
-/
import Derived.Test.YtcbaolgciiieeaaAeC
set_option linter.unusedSectionVars false
set_option linter.unusedSimpArgs false
set_option linter.unusedVariables false
set_option maxRecDepth 20000
namespace Go.DN.Pl
open Go.AM Go.PL
theorem size_small {a : List Int} (h : (sizeS a).2 = 0) : a.length ≤ 6 ∧ ∀ x ∈ a, 0 ≤ x ∧ x ≤ 4096 := ⟨(size_zero h).1, (size_zero h).2.1⟩
theorem idx0 {α : Type} (a : α) (r : List α) : idx (a :: r) 0 = some a := idx_nat (i := 0) rfl
theorem idx1 {α : Type} (a b : α) (r : List α) : idx (a :: b :: r) 1 = some b := idx_nat (i := 1) rfl
def sameAs (a : List Int) (l : List (List Int)) : List Int × Int := if l.all fun x => decide (x = a) then (a, 0) else ([], 6)
def RS (fu : Nat) (op : SOp) (args : List (List Int)) (r : List Int × Int) : Prop := F.array_Dims fu op args = some (finS r) ∧ F.adjointref2_ruled fu op args = some r ∧ r.1.length ≤ 4000000
theorem lpart_take {α : Type} (l : List α) (k : Nat) : lpart l 0 (k : Int) = l.take k := by
 unfold lpart
 simp
theorem steps_len (a : List Int) : (stepsS a).length = a.length := by unfold stepsS; split <;> simp [stepsR_len]
section
variable (fu : Nat) (op : SOp) (ho : okOp op) (hf : 4000000 < fu)
include ho hf
theorem k_same (h : op.Kind = 3 ∨ op.Kind = 4 ∨ op.Kind = 5 ∨ op.Kind = 6 ∨ op.Kind = 7 ∨ op.Kind = 8) (a : List Int) (r : List (List Int)) (ha : a.length ≤ 6) (hr : ∀ x ∈ r, x.length ≤ 6) (hrl : r.length ≤ 1048576) (hfit : F.array_fits fu op (a :: r) = some 0) : RS fu op (a :: r) (sameAs a r) := by
  have e2 : (op.Kind == 2) = false := by simp; omega
  have eg : (op.Kind == 3 || (op.Kind == 4 || (op.Kind == 5 || (op.Kind == 6 || (op.Kind == 7 || op.Kind == 8))))) = true := by
    simp; omega
  have hl := loop_ends (body := F.array_Dims_l1 fu (a :: r)) r (fun k => (k : Int)) (fun x => if decide (x = a) then none else some (Ex.ret (Ex.ret (Ex.ret ([], 6))))) (Ex.brk ())
    (fun k x hx => by
      have hw := wrap_succ (get_lt hx) (by omega)
      have hxl := hr x (List.mem_of_getElem? hx)
      simp only [F.array_Dims_l1, lpart1, dec_lt hx, cond_true, idx_nat hx, idx0, Option.bind_some, hw, equal_ok fu x a (by omega) hf]
      cases decide (x = a) <;> rfl)
    (by simp only [F.array_Dims_l1, lpart1, dec_end, cond_false]) fu (by omega)
  have hl2 := loop_ends (body := F.adjointref2_ruled_l1 fu (a :: r)) (a :: r) (fun k => (k : Int)) (fun x => if decide (x = a) then none else some (Ex.ret ([], 6))) (Ex.brk ())
    (fun k x hx => by
      have hw := wrap_succ (get_lt hx) (by simp only [List.length_cons]; omega)
      have hxl : x.length ≤ 6 := by
        rcases List.mem_cons.1 (List.mem_of_getElem? hx) with e | e
        · rw [e]; exact ha
        · exact hr x e
      simp only [F.adjointref2_ruled_l1, dec_lt hx, cond_true, idx_nat hx, idx0, Option.bind_some, hw, sameList_ok fu x a (by omega) hf]
      cases decide (x = a) <;> rfl)
    (by simp only [F.adjointref2_ruled_l1, dec_end, cond_false]) fu (by simp only [List.length_cons]; omega)
  rw [findAll, show ((0 : Nat) : Int) = 0 from rfl] at hl hl2
  rw [show ((a :: r).all fun x => decide (x = a)) = (r.all fun x => decide (x = a)) by simp] at hl2
  unfold sameAs
  refine ⟨?_, ?_, ?_⟩
  · simp only [F.array_Dims, hfit, Option.bind_some, e2, cc3, eg, show ((0 : Int) != 0) = false from rfl, cond_false, cond_true, chk_pos (show (0 : Int) ≤ 1 ∧ (1 : Int) ≤ ((a :: r).length : Int) by simp only [List.length_cons]; omega), hl, idx0, clone_ok fu a (by omega)]
    cases r.all fun x => decide (x = a) with
    | true => exact fin_ok fu a 0 (by omega) hf
    | false => rfl
  · simp only [F.adjointref2_ruled, e2, cc3, eg, Option.bind_some, cond_true, cond_false, hl2, idx0]
    cases r.all fun x => decide (x = a) <;> rfl
  · split
    · exact Nat.le_trans ha (by omega)
    · simp
theorem k_dot (h : op.Kind = 16) (a b : List Int) (r : List (List Int)) (ha : a.length ≤ 6) (hb : b.length ≤ 6) (hfit : F.array_fits fu op (a :: b :: r) = some 0) : RS fu op (a :: b :: r) (dotS op a b) := by
  have hlen : (dotS op a b).1.length ≤ 4000000 := by
    unfold dotS
    split
    · simp
    · have k1 := keepU_len a (op.At ++ op.Lo) a.length
      have k2 := keepU_len b (op.Step ++ op.Hi) b.length
      have := ho.2.2.1
      simp only [dotL, List.length_append, chosenL_len]; omega
  obtain ⟨p, hp, hp2⟩ := pair_ok fu op a b ho (by omega) (by omega) hf
  refine ⟨?_, ?_, hlen⟩
  · simp only [F.array_Dims, hfit, Option.bind_some, h, show ((0 : Int) != 0) = false from rfl, Int.reduceBEq, cc3, Bool.or_false, cond_false, cond_true, idx0, idx1, hp, bindE]
    by_cases he : (dotS op a b).2 = 0
    · obtain ⟨hd, _⟩ := hp2 he
      rw [show ((dotS op a b).2 == 0) = true by simp [he], cond_true, hd]
      exact fin_ok fu (dotS op a b).1 (dotS op a b).2 hlen hf
    · rw [show ((dotS op a b).2 == 0) = false by simp [he], cond_false]
      have := fin_ok fu [] (dotS op a b).2 (by simp) hf
      unfold finS at this ⊢
      simp only [if_pos he] at this ⊢
      exact this
  · simp only [F.adjointref2_ruled, h, Int.reduceBEq, cc3, Bool.or_false, cond_false, cond_true, idx0, idx1, Option.bind_some, dotDims_ok fu op a b ho (by omega) (by omega) hf]
def lookS (op : SOp) (a : List Int) : SView × Int :=
 bif op.Kind == 9 then spreadS ⟨0, a, stepsS a⟩ op.Dims op.At else bif op.Kind == 11 then turnS ⟨0, a, stepsS a⟩ op.At else bif op.Kind == 12 then formS a op.Dims else
 bif op.Kind == 13 then cutS ⟨0, a, stepsS a⟩ op.Lo op.Hi op.Step else flipS ⟨0, a, stepsS a⟩ op.At
theorem look_ok (a : List Int) (ha : (sizeS a).2 = 0) : F.array_look fu op a = some (lookS op a) := by
 obtain ⟨hl, hr⟩ := size_small ha
 obtain ⟨o0, o1, o2, o3, o4⟩ := ho
 have hs : (stepsS a).length ≤ 4000000 := by rw [steps_len]; omega
 have hw : wholeS a = (⟨0, a, stepsS a⟩, 0) := if_pos ha
 unfold lookS
 simp only [F.array_look, whole_ok fu a (by omega) hf, hw, Option.bind_some, show ((0 : Int) != 0) = false from rfl, cond_false, spread_ok fu ⟨0, a, stepsS a⟩ op.Dims op.At (show a.length ≤ _ by omega) hs (by omega) (by omega) hf,
  turn_ok fu ⟨0, a, stepsS a⟩ op.At (show a.length ≤ _ by omega) hs (by omega) hf, reform_ok fu a op.Dims ha (by omega) hf, cut_ok fu ⟨0, a, stepsS a⟩ op.Lo op.Hi op.Step (show a.length ≤ _ by omega) hs hf, flip_ok fu ⟨0, a, stepsS a⟩ op.At (show a.length ≤ _ by omega) hs (by omega) hf, cs]
theorem k_look (h : op.Kind = 9 ∨ op.Kind = 11 ∨ op.Kind = 13 ∨ op.Kind = 15) (a : List Int) (r : List (List Int)) (ha : (sizeS a).2 = 0) (hfit : F.array_fits fu op (a :: r) = some 0) : RS fu op (a :: r) ((lookS op a).1.Dims, (lookS op a).2) := by
  obtain ⟨hl, hr⟩ := size_small ha
  have hlk := look_ok fu op ho hf a ha
  obtain ⟨o0, o1, o2, o3, o4⟩ := ho
  have hs : (stepsS a).length ≤ 4000000 := by rw [steps_len]; omega
  have hw : wholeS a = (⟨0, a, stepsS a⟩, 0) := if_pos ha
  have hdn : ∀ v : SView, v.Dims.length ≤ 4000000 → (doneS v).1.Dims.length ≤ 4000000 := fun v hv => by unfold doneS; split <;> simp [nilV] <;> omega
  have hlen : (lookS op a).1.Dims.length ≤ 4000000 := by
    unfold lookS
    rcases h with h | h | h | h <;> simp only [h, Int.reduceBEq, cond_true, cond_false]
    · unfold spreadS; repeat' split
      all_goals simp [nilV]
      omega
    · unfold turnS; repeat' split
      all_goals simp [nilV, chosenL_len]
      omega
    · unfold cutS; repeat' split
      all_goals first | (apply hdn; show (cutD _ _ _ _).length ≤ _; rw [cutD_len]; show a.length ≤ _; omega) | simp [nilV]
    · unfold flipS; repeat' split
      all_goals first | (apply hdn; show a.length ≤ _; omega) | simp [nilV]
  refine ⟨?_, ?_, hlen⟩
  · have hfin := fin_ok fu (lookS op a).1.Dims (lookS op a).2 hlen hf
    rcases h with h | h | h | h <;>
    · simp only [F.array_Dims, hfit, Option.bind_some, h, show ((0 : Int) != 0) = false from rfl, Int.reduceBEq, cc3, Bool.or_false, cond_false, cond_true, idx0, hlk, bindE]
      exact hfin
  · unfold lookS
    rcases h with h | h | h | h <;>
    · simp only [F.adjointref2_ruled, F.adjointref2_viewDims, h, Int.reduceBEq, cc3, Bool.or_false, cond_false, cond_true, idx0, Option.bind_some, whole1_ok fu a (by omega) hf, hw, show ((0 : Int) != 0) = false from rfl,
        spread1_ok fu ⟨0, a, stepsS a⟩ op.Dims op.At (show a.length ≤ _ by omega) hs (by omega) (by omega) hf, turn1_ok fu ⟨0, a, stepsS a⟩ op.At (show a.length ≤ _ by omega) hs (by omega) hf, cut1_ok fu ⟨0, a, stepsS a⟩ op.Lo op.Hi op.Step (show a.length ≤ _ by omega) hs hf, flip1_ok fu ⟨0, a, stepsS a⟩ op.At (show a.length ≤ _ by omega) hs (by omega) hf]
end
end Go.DN.Pl
