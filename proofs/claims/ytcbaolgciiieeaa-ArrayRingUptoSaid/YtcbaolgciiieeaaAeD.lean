/-
  Arrays: the plain law: kind by kind.
-/
import Derived.Test.YtcbaolgciiieeaaAeC
set_option linter.unusedSectionVars false
set_option linter.unusedSimpArgs false
set_option linter.unusedVariables false
set_option maxRecDepth 20000
namespace Go.DN.Pl
open Go.AM Go.PL
theorem size_small {a : List Int} (h : (sizeS a).2 = 0) : a.length ≤ 6 ∧ ∀ x ∈ a, 0 ≤ x ∧ x ≤ 4096 := ⟨(size_zero h).1, (size_zero h).2.1⟩
theorem idx0 {α : Type} (a : α) (r : List α) : idx (a :: r) 0 = some a := idx_nat (i := 0) rfl
theorem idx1 {α : Type} (a b : α) (r : List α) : idx (a :: b :: r) 1 = some b := idx_nat (i := 1) rfl
def sameAs (a : List Int) (l : List (List Int)) : List Int × Int := if l.all fun x => decide (x = a) then (a, 0) else ([], 6)
def RS (fu : Nat) (op : SOp) (args : List (List Int)) (r : List Int × Int) : Prop := F.array_Dims fu op args = some (finS r) ∧ F.adjointref2_ruled fu op args = some r ∧ r.1.length ≤ 4000000
section
variable (fu : Nat) (op : SOp) (ho : okOp op) (hf : 4000000 < fu)
include ho hf
theorem k_same (h : op.Kind = 3 ∨ op.Kind = 4 ∨ op.Kind = 5 ∨ op.Kind = 6 ∨ op.Kind = 7 ∨ op.Kind = 8) (a : List Int) (r : List (List Int)) (ha : a.length ≤ 6) (hr : ∀ x ∈ r, x.length ≤ 6) (hrl : r.length ≤ 1048576) (hfit : F.array_fits fu op (a :: r) = some 0) : RS fu op (a :: r) (sameAs a r) := by
  have e2 : (op.Kind == 2) = false := by simp; omega
  have eg : (op.Kind == 3 || (op.Kind == 4 || (op.Kind == 5 || (op.Kind == 6 || (op.Kind == 7 || op.Kind == 8))))) = true := by
    simp; omega
  have hl := loop_ends (body := F.array_Dims_l1 fu (a :: r)) r (fun k => (k : Int)) (fun x => if decide (x = a) then none else some (Ex.ret (Ex.ret (Ex.ret ([], 6))))) (Ex.brk ())
    (fun k x hx => by
      have hw := wrap_succ (get_lt hx) (by omega)
      have hxl := hr x (List.mem_of_getElem? hx)
      simp only [F.array_Dims_l1, lpart1, dec_lt hx, cond_true, idx_nat hx, idx0, Option.bind_some, hw, equal_ok fu x a (by omega) hf]
      cases decide (x = a) <;> rfl)
    (by simp only [F.array_Dims_l1, lpart1, dec_end, cond_false]) fu (by omega)
  have hl2 := loop_ends (body := F.adjointref2_ruled_l1 fu (a :: r)) (a :: r) (fun k => (k : Int)) (fun x => if decide (x = a) then none else some (Ex.ret ([], 6))) (Ex.brk ())
    (fun k x hx => by
      have hw := wrap_succ (get_lt hx) (by simp only [List.length_cons]; omega)
      have hxl : x.length ≤ 6 := by
        rcases List.mem_cons.1 (List.mem_of_getElem? hx) with e | e
        · rw [e]; exact ha
        · exact hr x e
      simp only [F.adjointref2_ruled_l1, dec_lt hx, cond_true, idx_nat hx, idx0, Option.bind_some, hw, sameList_ok fu x a (by omega) hf]
      cases decide (x = a) <;> rfl)
    (by simp only [F.adjointref2_ruled_l1, dec_end, cond_false]) fu (by simp only [List.length_cons]; omega)
  rw [findAll, show ((0 : Nat) : Int) = 0 from rfl] at hl hl2
  rw [show ((a :: r).all fun x => decide (x = a)) = (r.all fun x => decide (x = a)) by simp] at hl2
  unfold sameAs
  refine ⟨?_, ?_, ?_⟩
  · simp only [F.array_Dims, hfit, Option.bind_some, e2, cc3, eg, show ((0 : Int) != 0) = false from rfl, cond_false, cond_true, chk_pos (show (0 : Int) ≤ 1 ∧ (1 : Int) ≤ ((a :: r).length : Int) by simp only [List.length_cons]; omega), hl, idx0, clone_ok fu a (by omega)]
    cases r.all fun x => decide (x = a) with
    | true => exact fin_ok fu a 0 (by omega) hf
    | false => rfl
  · simp only [F.adjointref2_ruled, e2, cc3, eg, Option.bind_some, cond_true, cond_false, hl2, idx0]
    cases r.all fun x => decide (x = a) <;> rfl
  · split
    · exact Nat.le_trans ha (by omega)
    · simp
end
end Go.DN.Pl
