/-
  Arrays: the plain law: kind by kind.
-/
import Derived.Test.YtcbaolgciiieeaaGreatAeC
set_option linter.unusedSectionVars false
set_option linter.unusedSimpArgs false
set_option linter.unusedVariables false
set_option maxRecDepth 20000
namespace Go.DN.Pl
open Go.AM Go.PL
theorem size_small {a : List Int} (h : (sizeS a).2 = 0) : a.length ≤ 6 ∧ ∀ x ∈ a, 0 ≤ x ∧ x ≤ 4096 := ⟨(size_zero h).1, (size_zero h).2.1⟩
theorem idx0 {α : Type} (a : α) (r : List α) : idx (a :: r) 0 = some a := idx_nat (i := 0) rfl
theorem idx1 {α : Type} (a b : α) (r : List α) : idx (a :: b :: r) 1 = some b := idx_nat (i := 1) rfl
def sameAs (a : List Int) (l : List (List Int)) : List Int × Int := if l.all fun x => decide (x = a) then (a, 0) else ([], 6)
def RS (fu : Nat) (op : SOp) (args : List (List Int)) (r : List Int × Int) : Prop := F.array_Dims fu op args = some (finS r) ∧ F.adjointref2_ruled fu op args = some r ∧ r.1.length ≤ 4000000
theorem lpart_take {α : Type} (l : List α) (k : Nat) : lpart l 0 (k : Int) = l.take k := by
 unfold lpart
 simp
section
variable (fu : Nat) (op : SOp) (ho : okOp op) (hf : 4000000 < fu)
include ho hf
theorem k_same (h : op.Kind = 3 ∨ op.Kind = 4 ∨ op.Kind = 5 ∨ op.Kind = 6 ∨ op.Kind = 7 ∨ op.Kind = 8) (a : List Int) (r : List (List Int)) (ha : a.length ≤ 6) (hr : ∀ x ∈ r, x.length ≤ 6) (hrl : r.length ≤ 1048576) (hfit : F.array_fits fu op (a :: r) = some 0) : RS fu op (a :: r) (sameAs a r) := by
  have e2 : (op.Kind == 2) = false := by simp; omega
  have eg : (op.Kind == 3 || (op.Kind == 4 || (op.Kind == 5 || (op.Kind == 6 || (op.Kind == 7 || op.Kind == 8))))) = true := by
    simp; omega
  have hl := loop_ends (body := F.array_Dims_l1 fu (a :: r)) r (fun k => (k : Int)) (fun x => if decide (x = a) then none else some (Ex.ret (Ex.ret (Ex.ret ([], 6))))) (Ex.brk ())
    (fun k x hx => by
      have hw := wrap_succ (get_lt hx) (by omega)
      have hxl := hr x (List.mem_of_getElem? hx)
      simp only [F.array_Dims_l1, lpart1, dec_lt hx, cond_true, idx_nat hx, idx0, Option.bind_some, hw, equal_ok fu x a (by omega) hf]
      cases decide (x = a) <;> rfl)
    (by simp only [F.array_Dims_l1, lpart1, dec_end, cond_false]) fu (by omega)
  have hl2 := loop_ends (body := F.adjointref2_ruled_l1 fu (a :: r)) (a :: r) (fun k => (k : Int)) (fun x => if decide (x = a) then none else some (Ex.ret ([], 6))) (Ex.brk ())
    (fun k x hx => by
      have hw := wrap_succ (get_lt hx) (by simp only [List.length_cons]; omega)
      have hxl : x.length ≤ 6 := by
        rcases List.mem_cons.1 (List.mem_of_getElem? hx) with e | e
        · rw [e]; exact ha
        · exact hr x e
      simp only [F.adjointref2_ruled_l1, dec_lt hx, cond_true, idx_nat hx, idx0, Option.bind_some, hw, sameList_ok fu x a (by omega) hf]
      cases decide (x = a) <;> rfl)
    (by simp only [F.adjointref2_ruled_l1, dec_end, cond_false]) fu (by simp only [List.length_cons]; omega)
  rw [findAll, show ((0 : Nat) : Int) = 0 from rfl] at hl hl2
  rw [show ((a :: r).all fun x => decide (x = a)) = (r.all fun x => decide (x = a)) by simp] at hl2
  unfold sameAs
  refine ⟨?_, ?_, ?_⟩
  · simp only [F.array_Dims, hfit, Option.bind_some, e2, cc3, eg, show ((0 : Int) != 0) = false from rfl, cond_false, cond_true, chk_pos (show (0 : Int) ≤ 1 ∧ (1 : Int) ≤ ((a :: r).length : Int) by simp only [List.length_cons]; omega), hl, idx0, clone_ok fu a (by omega)]
    cases r.all fun x => decide (x = a) with
    | true => exact fin_ok fu a 0 (by omega) hf
    | false => rfl
  · simp only [F.adjointref2_ruled, e2, cc3, eg, Option.bind_some, cond_true, cond_false, hl2, idx0]
    cases r.all fun x => decide (x = a) <;> rfl
  · split
    · exact Nat.le_trans ha (by omega)
    · simp
def takeS (a b : List Int) : List Int × Int := if (a.length : Int) == 0 then ([], 6) else (b ++ a.drop 1, 0)
theorem cat2 (x y : List Int) (hx : x.length ≤ 4000000) (hy : y.length ≤ 4000000) : Go.Proofs.YtcbaolgciiieeaaGreat.F.slices_Concat fu [x, y] = some (x ++ y) := by
 have f2 : [x, y].flatten = x ++ y := by simp
 rw [concat_ok fu _ (by simp) (by rw [f2, List.length_append]; omega) (by omega), f2]
theorem k_take (h : op.Kind = 18) (a b : List Int) (r : List (List Int)) (ha : a.length ≤ 6) (hb : b.length ≤ 6) (hfit : F.array_fits fu op (a :: b :: r) = some 0) : RS fu op (a :: b :: r) (takeS a b) := by
  have hlen : (takeS a b).1.length ≤ 4000000 := by
    unfold takeS
    split
    · simp
    · simp only [List.length_append, List.length_drop]; omega
  have e1 : lpart a 1 (a.length : Int) = a.drop 1 := lpart_drop a 1
  refine ⟨?_, ?_, hlen⟩
  · simp only [F.array_Dims, hfit, Option.bind_some, h, show ((0 : Int) != 0) = false from rfl, Int.reduceBEq, cc3, Bool.or_false, cond_false, cond_true, idx0, idx1, bindE]
    unfold takeS
    cases e : ((a.length : Int) == 0) with
    | true => rfl
    | false =>
      have : (1 : Int) ≤ (a.length : Int) := by simp at e; have : a.length ≠ 0 := by simpa using e
                                                omega
      simp only [cond_false, chk_pos (show (0 : Int) ≤ 1 ∧ (1 : Int) ≤ (a.length : Int) by omega), Option.bind_some, e1, cat2 fu op ho hf b (a.drop 1) (by omega) (by rw [List.length_drop]; omega)]
      exact fin_ok fu (b ++ a.drop 1) 0 (by rw [List.length_append, List.length_drop]; omega) hf
  · simp only [F.adjointref2_ruled, h, Int.reduceBEq, cc3, Bool.or_false, cond_false, cond_true, idx0, idx1, Option.bind_some]
    unfold takeS
    cases e : ((a.length : Int) == 0) with
    | true => rfl
    | false =>
      have : (1 : Int) ≤ (a.length : Int) := by simp at e; have : a.length ≠ 0 := by simpa using e
                                                omega
      simp only [cond_false, chk_pos (show (0 : Int) ≤ 1 ∧ (1 : Int) ≤ (a.length : Int) by omega), Option.bind_some, e1, both_ok fu b (a.drop 1) (by omega) (by rw [List.length_drop]; omega)]
      rfl
def badPut (op : SOp) (a b : List Int) : Bool := ((op.Dims.length : Int) != 1) || (decide ((a.length : Int) < (b.length : Int)) || !(decide (a.take b.length = b)))
def putS (op : SOp) (a b : List Int) : List Int × Int := if badPut op a b then ([], 6) else (op.Dims ++ a.drop b.length, 0)
theorem k_put (h : op.Kind = 19) (a b : List Int) (r : List (List Int)) (ha : a.length ≤ 6) (hb : b.length ≤ 6) (hfit : F.array_fits fu op (a :: b :: r) = some 0) : RS fu op (a :: b :: r) (putS op a b) := by
  have o1 := ho.1
  have hlen : (putS op a b).1.length ≤ 4000000 := by
    unfold putS
    split
    · simp
    · simp only [List.length_append, List.length_drop]; omega
  have eqa : (cond ((op.Dims.length : Int) != 1) (some true) (cond (decide ((a.length : Int) < (b.length : Int))) (some true) ((chk ((0 : Int) ≤ (b.length : Int) ∧ (b.length : Int) ≤ (a.length : Int))).bind fun _ => some (!(decide (a.take b.length = b)))))) = some (badPut op a b) := by
    unfold badPut
    cases (op.Dims.length : Int) != 1 with
    | true => rfl
    | false =>
      simp only [cond_false, Bool.false_or]
      by_cases hlt : (a.length : Int) < (b.length : Int)
      · rw [dec_true hlt]; rfl
      · rw [dec_false hlt, cond_false, chk_pos (by omega)]; rfl
  have hge : badPut op a b = false → (b.length : Int) ≤ (a.length : Int) := fun hb => by
    unfold badPut at hb
    rw [Bool.or_eq_false_iff, Bool.or_eq_false_iff, decide_eq_false_iff_not] at hb
    omega
  refine ⟨?_, ?_, hlen⟩
  · simp only [F.array_Dims, hfit, Option.bind_some, h, show ((0 : Int) != 0) = false from rfl, Int.reduceBEq, cc3, Bool.or_false, cond_false, cond_true, idx0, idx1, bindE, lpart_take, equal_ok fu (a.take b.length) b (by rw [List.length_take]; omega) hf, eqa]
    unfold putS
    cases hbp : badPut op a b with
    | true => rfl
    | false =>
      have := hge hbp
      simp only [cond_false, chk_pos (show (0 : Int) ≤ (b.length : Int) ∧ (b.length : Int) ≤ (a.length : Int) by omega), Option.bind_some, lpart_drop, cat2 fu op ho hf op.Dims (a.drop b.length) (by omega) (by rw [List.length_drop]; omega)]
      exact fin_ok fu (op.Dims ++ a.drop b.length) 0 (by rw [List.length_append, List.length_drop]; omega) hf
  · simp only [F.adjointref2_ruled, h, Int.reduceBEq, cc3, Bool.or_false, cond_false, cond_true, idx0, idx1, Option.bind_some, lpart_take, sameList_ok fu (a.take b.length) b (by rw [List.length_take]; omega) hf, eqa]
    unfold putS
    cases hbp : badPut op a b with
    | true => rfl
    | false =>
      have := hge hbp
      simp only [cond_false, chk_pos (show (0 : Int) ≤ (b.length : Int) ∧ (b.length : Int) ≤ (a.length : Int) by omega), Option.bind_some, lpart_drop, both_ok fu op.Dims (a.drop b.length) (by omega) (by rw [List.length_drop]; omega)]
      rfl
end
end Go.DN.Pl
