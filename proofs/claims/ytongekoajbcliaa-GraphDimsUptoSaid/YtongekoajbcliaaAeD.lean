/-
  Arrays: the plain law: kind by kind.
-/
import Derived.Test.YtongekoajbcliaaAeC
set_option linter.unusedSectionVars false
set_option linter.unusedSimpArgs false
set_option linter.unusedVariables false
set_option maxRecDepth 20000
namespace Go.DN.Pl
open Go.AM Go.PL
theorem size_small {a : List Int} (h : (sizeS a).2 = 0) : a.length ≤ 6 ∧ ∀ x ∈ a, 0 ≤ x ∧ x ≤ 4096 := ⟨(size_zero h).1, (size_zero h).2.1⟩
theorem idx0 {α : Type} (a : α) (r : List α) : idx (a :: r) 0 = some a := idx_nat (i := 0) rfl
theorem idx1 {α : Type} (a b : α) (r : List α) : idx (a :: b :: r) 1 = some b := idx_nat (i := 1) rfl
def sameAs (a : List Int) (l : List (List Int)) : List Int × Int := if l.all fun x => decide (x = a) then (a, 0) else ([], 6)
def RS (fu : Nat) (op : SOp) (args : List (List Int)) (r : List Int × Int) : Prop := F.array_Dims fu op args = some (finS r) ∧ F.adjointref2_ruled fu op args = some r ∧ r.1.length ≤ 4000000
theorem lpart_take {α : Type} (l : List α) (k : Nat) : lpart l 0 (k : Int) = l.take k := by
 unfold lpart
 simp
theorem steps_len (a : List Int) : (stepsS a).length = a.length := by unfold stepsS; split <;> simp [stepsR_len]
section
variable (fu : Nat) (op : SOp) (ho : okOp op) (hf : 4000000 < fu)
include ho hf
theorem k_fill (h : op.Kind = 2) (args : List (List Int)) (hfit : F.array_fits fu op args = some 0) : RS fu op args (op.Dims, 0) := by
  have := ho.1
  refine ⟨?_, ?_, Nat.le_trans this (by omega)⟩
  · simp only [F.array_Dims, hfit, Option.bind_some, h, show ((0 : Int) != 0) = false from rfl, Int.reduceBEq, cond_false, cond_true, clone_ok fu op.Dims (by omega), bindE]
    exact fin_ok fu op.Dims 0 (by omega) hf
  · simp only [F.adjointref2_ruled, h, Int.reduceBEq, cond_true]
theorem k_same (h : op.Kind = 3 ∨ op.Kind = 4 ∨ op.Kind = 5 ∨ op.Kind = 6 ∨ op.Kind = 7 ∨ op.Kind = 8) (a : List Int) (r : List (List Int)) (ha : a.length ≤ 6) (hr : ∀ x ∈ r, x.length ≤ 6) (hrl : r.length ≤ 1048576) (hfit : F.array_fits fu op (a :: r) = some 0) : RS fu op (a :: r) (sameAs a r) := by
  have e2 : (op.Kind == 2) = false := by simp; omega
  have eg : (op.Kind == 3 || (op.Kind == 4 || (op.Kind == 5 || (op.Kind == 6 || (op.Kind == 7 || op.Kind == 8))))) = true := by
    simp; omega
  have hl := loop_ends (body := F.array_Dims_l1 fu (a :: r)) r (fun k => (k : Int)) (fun x => if decide (x = a) then none else some (Ex.ret (Ex.ret (Ex.ret ([], 6))))) (Ex.brk ())
    (fun k x hx => by
      have hw := wrap_succ (get_lt hx) (by omega)
      have hxl := hr x (List.mem_of_getElem? hx)
      simp only [F.array_Dims_l1, lpart1, dec_lt hx, cond_true, idx_nat hx, idx0, Option.bind_some, hw, equal_ok fu x a (by omega) hf]
      cases decide (x = a) <;> rfl)
    (by simp only [F.array_Dims_l1, lpart1, dec_end, cond_false]) fu (by omega)
  have hl2 := loop_ends (body := F.adjointref2_ruled_l1 fu (a :: r)) (a :: r) (fun k => (k : Int)) (fun x => if decide (x = a) then none else some (Ex.ret ([], 6))) (Ex.brk ())
    (fun k x hx => by
      have hw := wrap_succ (get_lt hx) (by simp only [List.length_cons]; omega)
      have hxl : x.length ≤ 6 := by
        rcases List.mem_cons.1 (List.mem_of_getElem? hx) with e | e
        · rw [e]; exact ha
        · exact hr x e
      simp only [F.adjointref2_ruled_l1, dec_lt hx, cond_true, idx_nat hx, idx0, Option.bind_some, hw, sameList_ok fu x a (by omega) hf]
      cases decide (x = a) <;> rfl)
    (by simp only [F.adjointref2_ruled_l1, dec_end, cond_false]) fu (by simp only [List.length_cons]; omega)
  rw [findAll, show ((0 : Nat) : Int) = 0 from rfl] at hl hl2
  rw [show ((a :: r).all fun x => decide (x = a)) = (r.all fun x => decide (x = a)) by simp] at hl2
  unfold sameAs
  refine ⟨?_, ?_, ?_⟩
  · simp only [F.array_Dims, hfit, Option.bind_some, e2, cc3, eg, show ((0 : Int) != 0) = false from rfl, cond_false, cond_true, chk_pos (show (0 : Int) ≤ 1 ∧ (1 : Int) ≤ ((a :: r).length : Int) by simp only [List.length_cons]; omega), hl, idx0, clone_ok fu a (by omega)]
    cases r.all fun x => decide (x = a) with
    | true => exact fin_ok fu a 0 (by omega) hf
    | false => rfl
  · simp only [F.adjointref2_ruled, e2, cc3, eg, Option.bind_some, cond_true, cond_false, hl2, idx0]
    cases r.all fun x => decide (x = a) <;> rfl
  · split
    · exact Nat.le_trans ha (by omega)
    · simp
def sumS (op : SOp) (a : List Int) : List Int × Int := if risB op.At a.length then (keepU a op.At a.length, 0) else ([], 6)
theorem k_sum (h : op.Kind = 10) (a : List Int) (r : List (List Int)) (ha : a.length ≤ 6) (hfit : F.array_fits fu op (a :: r) = some 0) : RS fu op (a :: r) (sumS op a) := by
  obtain ⟨_, o1, _⟩ := ho
  have hk := keepU_len a op.At a.length
  have hlen : (sumS op a).1.length ≤ 4000000 := by unfold sumS; split <;> simp <;> omega
  refine ⟨?_, ?_, hlen⟩
  · simp only [F.array_Dims, hfit, Option.bind_some, h, show ((0 : Int) != 0) = false from rfl, Int.reduceBEq, cc3, Bool.or_false, cond_false, cond_true, idx0, summed_ok fu op.At a (by omega) (by omega) hf, bindE]
    exact fin_ok fu (sumS op a).1 (sumS op a).2 hlen hf
  · simp only [F.adjointref2_ruled, h, Int.reduceBEq, cc3, Bool.or_false, cond_false, cond_true, idx0, Option.bind_some, rising1_ok fu op.At a.length (by omega) hf, free_ok fu a op.At (by omega) (by omega) hf, chosen_free fu a op.At (by omega) hf]
    unfold sumS
    cases risB op.At a.length <;> rfl
theorem k_pad (h : op.Kind = 14) (a : List Int) (r : List (List Int)) (ha : (sizeS a).2 = 0) (hfit : F.array_fits fu op (a :: r) = some 0) : RS fu op (a :: r) (padS op a) := by
  obtain ⟨hl, hr⟩ := size_small ha
  have hlen : (padS op a).1.length ≤ 4000000 := by
    unfold padS
    split
    · simp
    · split
      · simp
      · simp only [padL_len]; omega
  refine ⟨?_, ?_, hlen⟩
  · simp only [F.array_Dims, hfit, Option.bind_some, h, show ((0 : Int) != 0) = false from rfl, Int.reduceBEq, cc3, Bool.or_false, cond_false, cond_true, idx0, padded_ok fu op a (by omega) hr hf, bindE]
    exact fin_ok fu (padS op a).1 (padS op a).2 hlen hf
  · simp only [F.adjointref2_ruled, h, Int.reduceBEq, cc3, Bool.or_false, cond_false, cond_true, idx0, Option.bind_some, padDims_ok fu op a (by omega) hr hf]
theorem k_dot (h : op.Kind = 16) (a b : List Int) (r : List (List Int)) (ha : a.length ≤ 6) (hb : b.length ≤ 6) (hfit : F.array_fits fu op (a :: b :: r) = some 0) : RS fu op (a :: b :: r) (dotS op a b) := by
  have hlen : (dotS op a b).1.length ≤ 4000000 := by
    unfold dotS
    split
    · simp
    · have k1 := keepU_len a (op.At ++ op.Lo) a.length
      have k2 := keepU_len b (op.Step ++ op.Hi) b.length
      have := ho.2.2.1
      simp only [dotL, List.length_append, chosenL_len]; omega
  obtain ⟨p, hp, hp2⟩ := pair_ok fu op a b ho (by omega) (by omega) hf
  refine ⟨?_, ?_, hlen⟩
  · simp only [F.array_Dims, hfit, Option.bind_some, h, show ((0 : Int) != 0) = false from rfl, Int.reduceBEq, cc3, Bool.or_false, cond_false, cond_true, idx0, idx1, hp, bindE]
    by_cases he : (dotS op a b).2 = 0
    · obtain ⟨hd, _⟩ := hp2 he
      rw [show ((dotS op a b).2 == 0) = true by simp [he], cond_true, hd]
      exact fin_ok fu (dotS op a b).1 (dotS op a b).2 hlen hf
    · rw [show ((dotS op a b).2 == 0) = false by simp [he], cond_false]
      have := fin_ok fu [] (dotS op a b).2 (by simp) hf
      unfold finS at this ⊢
      simp only [if_pos he] at this ⊢
      exact this
  · simp only [F.adjointref2_ruled, h, Int.reduceBEq, cc3, Bool.or_false, cond_false, cond_true, idx0, idx1, Option.bind_some, dotDims_ok fu op a b ho (by omega) (by omega) hf]
theorem k_join (h : op.Kind = 17) (a : List Int) (r : List (List Int)) (ha : ∀ x ∈ a :: r, (sizeS x).2 = 0) (hrl : r.length ≤ 1048576) (hfit : F.array_fits fu op (a :: r) = some 0) : RS fu op (a :: r) (joinS op.At (a :: r)) := by
  have hl := (size_small (ha a List.mem_cons_self)).1
  have hlen : (joinS op.At (a :: r)).1.length ≤ 4000000 := by
    unfold joinS
    split
    · split
      · simp only [List.length_set, List.headD_cons]; omega
      · simp
    · simp
  refine ⟨?_, ?_, hlen⟩
  · simp only [F.array_Dims, hfit, Option.bind_some, h, show ((0 : Int) != 0) = false from rfl, Int.reduceBEq, cc3, Bool.or_false, cond_false, cond_true, joined_ok fu op.At a r (by omega) (by omega) (fun x hx => (size_small (ha x hx)).2) hf, bindE]
    exact fin_ok fu (joinS op.At (a :: r)).1 (joinS op.At (a :: r)).2 hlen hf
  · simp only [F.adjointref2_ruled, h, Int.reduceBEq, cc3, Bool.or_false, cond_false, cond_true, Option.bind_some, joinDims_ok fu op a r (by omega) (by omega) (fun x hx => (size_small (ha x hx)).2) hf]
def takeS (a b : List Int) : List Int × Int := if (a.length : Int) == 0 then ([], 6) else (b ++ a.drop 1, 0)
theorem cat2 (x y : List Int) (hx : x.length ≤ 4000000) (hy : y.length ≤ 4000000) : Go.Proofs.Ytongekoajbcliaa.F.slices_Concat fu [x, y] = some (x ++ y) := by
 have f2 : [x, y].flatten = x ++ y := by simp
 rw [concat_ok fu _ (by simp) (by rw [f2, List.length_append]; omega) (by omega), f2]
theorem k_take (h : op.Kind = 18) (a b : List Int) (r : List (List Int)) (ha : a.length ≤ 6) (hb : b.length ≤ 6) (hfit : F.array_fits fu op (a :: b :: r) = some 0) : RS fu op (a :: b :: r) (takeS a b) := by
  have hlen : (takeS a b).1.length ≤ 4000000 := by
    unfold takeS
    split
    · simp
    · simp only [List.length_append, List.length_drop]; omega
  have e1 : lpart a 1 (a.length : Int) = a.drop 1 := lpart_drop a 1
  refine ⟨?_, ?_, hlen⟩
  · simp only [F.array_Dims, hfit, Option.bind_some, h, show ((0 : Int) != 0) = false from rfl, Int.reduceBEq, cc3, Bool.or_false, cond_false, cond_true, idx0, idx1, bindE]
    unfold takeS
    cases e : ((a.length : Int) == 0) with
    | true => rfl
    | false =>
      have : (1 : Int) ≤ (a.length : Int) := by simp at e; have : a.length ≠ 0 := by simpa using e
                                                omega
      simp only [cond_false, chk_pos (show (0 : Int) ≤ 1 ∧ (1 : Int) ≤ (a.length : Int) by omega), Option.bind_some, e1, cat2 fu op ho hf b (a.drop 1) (by omega) (by rw [List.length_drop]; omega)]
      exact fin_ok fu (b ++ a.drop 1) 0 (by rw [List.length_append, List.length_drop]; omega) hf
  · simp only [F.adjointref2_ruled, h, Int.reduceBEq, cc3, Bool.or_false, cond_false, cond_true, idx0, idx1, Option.bind_some]
    unfold takeS
    cases e : ((a.length : Int) == 0) with
    | true => rfl
    | false =>
      have : (1 : Int) ≤ (a.length : Int) := by simp at e; have : a.length ≠ 0 := by simpa using e
                                                omega
      simp only [cond_false, chk_pos (show (0 : Int) ≤ 1 ∧ (1 : Int) ≤ (a.length : Int) by omega), Option.bind_some, e1, both_ok fu b (a.drop 1) (by omega) (by rw [List.length_drop]; omega)]
      rfl
def badPut (op : SOp) (a b : List Int) : Bool := ((op.Dims.length : Int) != 1) || (decide ((a.length : Int) < (b.length : Int)) || !(decide (a.take b.length = b)))
def putS (op : SOp) (a b : List Int) : List Int × Int := if badPut op a b then ([], 6) else (op.Dims ++ a.drop b.length, 0)
theorem k_put (h : op.Kind = 19) (a b : List Int) (r : List (List Int)) (ha : a.length ≤ 6) (hb : b.length ≤ 6) (hfit : F.array_fits fu op (a :: b :: r) = some 0) : RS fu op (a :: b :: r) (putS op a b) := by
  have o1 := ho.1
  have hlen : (putS op a b).1.length ≤ 4000000 := by
    unfold putS
    split
    · simp
    · simp only [List.length_append, List.length_drop]; omega
  have eqa : (cond ((op.Dims.length : Int) != 1) (some true) (cond (decide ((a.length : Int) < (b.length : Int))) (some true) ((chk ((0 : Int) ≤ (b.length : Int) ∧ (b.length : Int) ≤ (a.length : Int))).bind fun _ => some (!(decide (a.take b.length = b)))))) = some (badPut op a b) := by
    unfold badPut
    cases (op.Dims.length : Int) != 1 with
    | true => rfl
    | false =>
      simp only [cond_false, Bool.false_or]
      by_cases hlt : (a.length : Int) < (b.length : Int)
      · rw [dec_true hlt]; rfl
      · rw [dec_false hlt, cond_false, chk_pos (by omega)]; rfl
  have hge : badPut op a b = false → (b.length : Int) ≤ (a.length : Int) := fun hb => by
    unfold badPut at hb
    rw [Bool.or_eq_false_iff, Bool.or_eq_false_iff, decide_eq_false_iff_not] at hb
    omega
  refine ⟨?_, ?_, hlen⟩
  · simp only [F.array_Dims, hfit, Option.bind_some, h, show ((0 : Int) != 0) = false from rfl, Int.reduceBEq, cc3, Bool.or_false, cond_false, cond_true, idx0, idx1, bindE, lpart_take, equal_ok fu (a.take b.length) b (by rw [List.length_take]; omega) hf, eqa]
    unfold putS
    cases hbp : badPut op a b with
    | true => rfl
    | false =>
      have := hge hbp
      simp only [cond_false, chk_pos (show (0 : Int) ≤ (b.length : Int) ∧ (b.length : Int) ≤ (a.length : Int) by omega), Option.bind_some, lpart_drop, cat2 fu op ho hf op.Dims (a.drop b.length) (by omega) (by rw [List.length_drop]; omega)]
      exact fin_ok fu (op.Dims ++ a.drop b.length) 0 (by rw [List.length_append, List.length_drop]; omega) hf
  · simp only [F.adjointref2_ruled, h, Int.reduceBEq, cc3, Bool.or_false, cond_false, cond_true, idx0, idx1, Option.bind_some, lpart_take, sameList_ok fu (a.take b.length) b (by rw [List.length_take]; omega) hf, eqa]
    unfold putS
    cases hbp : badPut op a b with
    | true => rfl
    | false =>
      have := hge hbp
      simp only [cond_false, chk_pos (show (0 : Int) ≤ (b.length : Int) ∧ (b.length : Int) ≤ (a.length : Int) by omega), Option.bind_some, lpart_drop, both_ok fu op.Dims (a.drop b.length) (by omega) (by rw [List.length_drop]; omega)]
      rfl
def lookS (op : SOp) (a : List Int) : SView × Int :=
 bif op.Kind == 9 then spreadS ⟨0, a, stepsS a⟩ op.Dims op.At else bif op.Kind == 11 then turnS ⟨0, a, stepsS a⟩ op.At else bif op.Kind == 12 then formS a op.Dims else
 bif op.Kind == 13 then cutS ⟨0, a, stepsS a⟩ op.Lo op.Hi op.Step else flipS ⟨0, a, stepsS a⟩ op.At
theorem look_ok (a : List Int) (ha : (sizeS a).2 = 0) : F.array_look fu op a = some (lookS op a) := by
 obtain ⟨hl, hr⟩ := size_small ha
 obtain ⟨o0, o1, o2, o3, o4⟩ := ho
 have hs : (stepsS a).length ≤ 4000000 := by rw [steps_len]; omega
 have hw : wholeS a = (⟨0, a, stepsS a⟩, 0) := if_pos ha
 unfold lookS
 simp only [F.array_look, whole_ok fu a (by omega) hf, hw, Option.bind_some, show ((0 : Int) != 0) = false from rfl, cond_false, spread_ok fu ⟨0, a, stepsS a⟩ op.Dims op.At (show a.length ≤ _ by omega) hs (by omega) (by omega) hf,
  turn_ok fu ⟨0, a, stepsS a⟩ op.At (show a.length ≤ _ by omega) hs (by omega) hf, reform_ok fu a op.Dims ha (by omega) hf, cut_ok fu ⟨0, a, stepsS a⟩ op.Lo op.Hi op.Step (show a.length ≤ _ by omega) hs hf, flip_ok fu ⟨0, a, stepsS a⟩ op.At (show a.length ≤ _ by omega) hs (by omega) hf, cs]
theorem k_look (h : op.Kind = 9 ∨ op.Kind = 11 ∨ op.Kind = 13 ∨ op.Kind = 15) (a : List Int) (r : List (List Int)) (ha : (sizeS a).2 = 0) (hfit : F.array_fits fu op (a :: r) = some 0) : RS fu op (a :: r) ((lookS op a).1.Dims, (lookS op a).2) := by
  obtain ⟨hl, hr⟩ := size_small ha
  have hlk := look_ok fu op ho hf a ha
  obtain ⟨o0, o1, o2, o3, o4⟩ := ho
  have hs : (stepsS a).length ≤ 4000000 := by rw [steps_len]; omega
  have hw : wholeS a = (⟨0, a, stepsS a⟩, 0) := if_pos ha
  have hdn : ∀ v : SView, v.Dims.length ≤ 4000000 → (doneS v).1.Dims.length ≤ 4000000 := fun v hv => by unfold doneS; split <;> simp [nilV] <;> omega
  have hlen : (lookS op a).1.Dims.length ≤ 4000000 := by
    unfold lookS
    rcases h with h | h | h | h <;> simp only [h, Int.reduceBEq, cond_true, cond_false]
    · unfold spreadS; repeat' split
      all_goals simp [nilV]
      omega
    · unfold turnS; repeat' split
      all_goals simp [nilV, chosenL_len]
      omega
    · unfold cutS; repeat' split
      all_goals first | (apply hdn; show (cutD _ _ _ _).length ≤ _; rw [cutD_len]; show a.length ≤ _; omega) | simp [nilV]
    · unfold flipS; repeat' split
      all_goals first | (apply hdn; show a.length ≤ _; omega) | simp [nilV]
  refine ⟨?_, ?_, hlen⟩
  · have hfin := fin_ok fu (lookS op a).1.Dims (lookS op a).2 hlen hf
    rcases h with h | h | h | h <;>
    · simp only [F.array_Dims, hfit, Option.bind_some, h, show ((0 : Int) != 0) = false from rfl, Int.reduceBEq, cc3, Bool.or_false, cond_false, cond_true, idx0, hlk, bindE]
      exact hfin
  · unfold lookS
    rcases h with h | h | h | h <;>
    · simp only [F.adjointref2_ruled, F.adjointref2_viewDims, h, Int.reduceBEq, cc3, Bool.or_false, cond_false, cond_true, idx0, Option.bind_some, whole1_ok fu a (by omega) hf, hw, show ((0 : Int) != 0) = false from rfl,
        spread1_ok fu ⟨0, a, stepsS a⟩ op.Dims op.At (show a.length ≤ _ by omega) hs (by omega) (by omega) hf, turn1_ok fu ⟨0, a, stepsS a⟩ op.At (show a.length ≤ _ by omega) hs (by omega) hf, cut1_ok fu ⟨0, a, stepsS a⟩ op.Lo op.Hi op.Step (show a.length ≤ _ by omega) hs hf, flip1_ok fu ⟨0, a, stepsS a⟩ op.At (show a.length ≤ _ by omega) hs (by omega) hf]
theorem k_form (h : op.Kind = 12) (a : List Int) (r : List (List Int)) (ha : (sizeS a).2 = 0) (hfit : F.array_fits fu op (a :: r) = some 0) : RS fu op (a :: r) ((formS a op.Dims).1.Dims, (formS a op.Dims).2) := by
  obtain ⟨hl, hr⟩ := size_small ha
  have hlk := look_ok fu op ho hf a ha
  obtain ⟨o0, o1, o2, o3, o4⟩ := ho
  have e : lookS op a = formS a op.Dims := by unfold lookS; simp only [h, Int.reduceBEq, cond_true, cond_false]
  rw [e] at hlk
  have hlen : (formS a op.Dims).1.Dims.length ≤ 4000000 := by
    unfold formS; repeat' split
    all_goals simp [nilV, formV]
    omega
  refine ⟨?_, ?_, hlen⟩
  · have hfin := fin_ok fu (formS a op.Dims).1.Dims (formS a op.Dims).2 hlen hf
    simp only [F.array_Dims, hfit, Option.bind_some, h, show ((0 : Int) != 0) = false from rfl, Int.reduceBEq, cc3, Bool.or_false, cond_false, cond_true, idx0, hlk, bindE]
    exact hfin
  · simp only [F.adjointref2_ruled, h, Int.reduceBEq, cc3, Bool.or_false, cond_false, cond_true, idx0, Option.bind_some, refSize_ok fu op.Dims (by omega) hf, refSize_ok fu a (by omega) hf]
    unfold formS
    by_cases hz : (sizeS op.Dims).2 = 0
    · rw [if_neg (by omega), bne_false hz, cond_false]
      by_cases hs : (sizeS a).1 = (sizeS op.Dims).1
      · rw [if_neg (by omega), bne_false hs, cond_false]; rfl
      · rw [if_pos hs, bne_true hs, cond_true]; rfl
    · rw [if_pos hz, bne_true hz, cond_true]; rfl
end
end Go.DN.Pl
