/-
  Arrays: the plain law: what an operation makes.
-/
import Derived.Test.YtcbaolgciiieeaaGreatAeB
set_option linter.unusedSectionVars false
set_option linter.unusedSimpArgs false
set_option linter.unusedVariables false
set_option maxRecDepth 20000
namespace Go.DN.Pl
open Go.AM Go.PL
theorem cc3 (a b : Bool) : cond a (some a) (some b) = some (a || b) := by cases a <;> rfl
theorem cs {α : Type} (a : Bool) (x y : α) : cond a (some x) (some y) = some (cond a x y) := by cases a <;> rfl
theorem cs3 (a b : Bool) : cond a a b = (a || b) := by cases a <;> rfl
def manyS (k : Int) : Int :=
 bif k == 2 then 0 else bif (k == 9 || (k == 10 || (k == 11 || (k == 12 || (k == 13 || (k == 14 || k == 15)))))) then 1 else
 bif (k == 3 || (k == 4 || (k == 5 || (k == 6 || (k == 7 || (k == 16 || (k == 18 || k == 19))))))) then 2 else bif k == 8 then 3 else bif k == 17 then -1 else -2
theorem many_ok (fu : Nat) (k : Int) : F.array_many fu k = some (manyS k) := by
 simp only [F.array_many, cc3, Option.bind_some, cs, cs3]
 rfl
def rightS (k : Int) (n : Nat) : Int := if manyS k = -2 then 1 else if (manyS k ≥ 0 ∧ manyS k ≠ n) ∨ (manyS k = -1 ∧ n = 0) then 2 else 0
theorem kinds (k : Int) : (k = 2 ∨ k = 3 ∨ k = 4 ∨ k = 5 ∨ k = 6 ∨ k = 7 ∨ k = 8 ∨ k = 9 ∨ k = 10) ∨ (k = 11 ∨ k = 12 ∨ k = 13 ∨ k = 14 ∨ k = 15 ∨ k = 16 ∨ k = 17 ∨ k = 18 ∨ k = 19) ∨ (k < 2 ∨ k > 19) := by omega
theorem right_ok (fu : Nat) (op : SOp) (n : Nat) : F.adjointref2_Right fu op (n : Int) = some (rightS op.Kind n) := by
  have one : ∀ (c : Int) (m : Nat), manyS c = (m : Int) → rightS c n = if (n : Int) != (m : Int) then 2 else 0 := fun c m h => by
    unfold rightS
    rw [h, if_neg (by omega)]
    by_cases e : n = m
    · subst e; rw [if_neg (by omega)]; simp
    · rw [if_pos (by omega)]; simp; omega
  have two : rightS 17 n = if (n : Int) == 0 then 2 else 0 := by
    unfold rightS
    rw [show manyS 17 = -1 from rfl, if_neg (by omega)]
    by_cases e : n = 0
    · subst e; rfl
    · rw [if_neg (by omega)]; simp; omega
  have e0 : ∀ n : Int, (cond (n != 0) (some (Ex.ret 2 : Ex Unit Int)) (some (.brk ()))) = some (bif n != 0 then .ret 2 else .brk ()) := fun n => cs _ _ _
  simp only [F.adjointref2_Right, cc3, Option.bind_some]
  rcases kinds op.Kind with h | h | h
  · rcases h with h | h | h | h | h | h | h | h | h
    · rw [h, one 2 0 rfl]; cases hb : ((n : Int) != ((0 : Nat) : Int)) <;> simp only [show ((0 : Nat) : Int) = 0 from rfl] at hb <;> simp only [hb, beq_self_eq_true, cond_true, cond_false, bindE] <;> rfl
    all_goals
      first
      | rw [h, one _ 2 rfl]; cases hb : ((n : Int) != ((2 : Nat) : Int)) <;> simp only [show ((2 : Nat) : Int) = 2 from rfl] at hb <;> simp [hb, bindE]
      | rw [h, one _ 3 rfl]; cases hb : ((n : Int) != ((3 : Nat) : Int)) <;> simp only [show ((3 : Nat) : Int) = 3 from rfl] at hb <;> simp [hb, bindE]
      | rw [h, one _ 1 rfl]; cases hb : ((n : Int) != ((1 : Nat) : Int)) <;> simp only [show ((1 : Nat) : Int) = 1 from rfl] at hb <;> simp [hb, bindE]
  · rcases h with h | h | h | h | h | h | h | h | h
    all_goals
      first
      | rw [h, one _ 2 rfl]; cases hb : ((n : Int) != ((2 : Nat) : Int)) <;> simp only [show ((2 : Nat) : Int) = 2 from rfl] at hb <;> simp [hb, bindE]
      | rw [h, one _ 1 rfl]; cases hb : ((n : Int) != ((1 : Nat) : Int)) <;> simp only [show ((1 : Nat) : Int) = 1 from rfl] at hb <;> simp [hb, bindE]
      | rw [h, two]; cases hb : ((n : Int) == 0) <;> simp [hb, bindE]
  · have ne : ∀ c : Int, 2 ≤ c → c ≤ 19 → (op.Kind == c) = false := fun c h1 h2 => by simp; omega
    have hm : manyS op.Kind = -2 := by
      unfold manyS
      simp only [ne 2 (by omega) (by omega), ne 3 (by omega) (by omega), ne 4 (by omega) (by omega), ne 5 (by omega) (by omega), ne 6 (by omega) (by omega), ne 7 (by omega) (by omega), ne 8 (by omega) (by omega), ne 9 (by omega) (by omega), ne 10 (by omega) (by omega), ne 11 (by omega) (by omega), ne 12 (by omega) (by omega), ne 13 (by omega) (by omega), ne 14 (by omega) (by omega), ne 15 (by omega) (by omega), ne 16 (by omega) (by omega), ne 17 (by omega) (by omega), ne 18 (by omega) (by omega), ne 19 (by omega) (by omega), Bool.or_false, cond_false]
    unfold rightS
    rw [if_pos hm]
    simp only [ne 2 (by omega) (by omega), ne 3 (by omega) (by omega), ne 4 (by omega) (by omega), ne 5 (by omega) (by omega), ne 6 (by omega) (by omega), ne 7 (by omega) (by omega), ne 8 (by omega) (by omega), ne 9 (by omega) (by omega), ne 10 (by omega) (by omega), ne 11 (by omega) (by omega), ne 12 (by omega) (by omega), ne 13 (by omega) (by omega), ne 14 (by omega) (by omega), ne 15 (by omega) (by omega), ne 16 (by omega) (by omega), ne 17 (by omega) (by omega), ne 18 (by omega) (by omega), ne 19 (by omega) (by omega), Bool.or_false, cond_false, bindE]
def szE (a : List Int) : Int := (sizeS a).2
def okArgs (args : List (List Int)) : Prop := args.length ≤ 1048576 ∧ ∀ a ∈ args, a.length ≤ 1048576
theorem fits_ok (fu : Nat) (op : SOp) (args : List (List Int)) (ha : okArgs args) (hf : 4000000 < fu) : F.array_fits fu op args = some (if rightS op.Kind args.length ≠ 0 then rightS op.Kind args.length else firstW szE args) := by
  obtain ⟨a1, a2⟩ := ha
  unfold F.array_fits rightS
  simp only [many_ok, Option.bind_some]
  have hl := loop_ends (body := F.array_fits_l1 fu args) args (fun k => (k : Int)) (fun a => if szE a = 0 then none else some (Ex.ret (szE a) : Ex Unit Int)) (Ex.brk ())
    (fun k x hx => by
      have hw := wrap_succ (get_lt hx) (by omega)
      simp only [F.array_fits_l1, dec_lt hx, cond_true, idx_nat hx, Option.bind_some, hw, size_ok fu x (by have := a2 x (List.mem_of_getElem? hx); omega) hf]
      unfold szE
      by_cases h : (sizeS x).2 = 0
      · rw [bne_false h, if_pos h]; rfl
      · rw [bne_true h, if_neg h]; rfl)
    (by simp only [F.array_fits_l1, dec_end, cond_false]) fu (by omega)
  rw [show ((0 : Nat) : Int) = 0 from rfl] at hl
  have hl2 : (args.findSome? fun a => if szE a = 0 then none else some (Ex.ret (szE a) : Ex Unit Int)) = (errI (firstW szE args)).map Ex.ret := by
    rw [← firstW_find]
    clear hl a1 a2
    induction args with
    | nil => rfl
    | cons x r ih =>
      rw [List.findSome?_cons, List.findSome?_cons]
      by_cases h : szE x = 0
      · rw [if_pos h, h, errI_zero]; exact ih
      · rw [if_neg h, errI_pos h]; rfl
  rw [hl2] at hl
  by_cases e1 : manyS op.Kind = -2
  · rw [e1]; rfl
  · rw [show (manyS op.Kind == -2) = false by simp [e1], if_neg e1, cond_false]
    have nn : ∀ {p : Prop} [Decidable p], ¬ p → (some false : Option Bool) = some (decide p) := fun h => by rw [dec_false h]
    have yy : ∀ {p : Prop} [Decidable p], p → (some true : Option Bool) = some (decide p) := fun h => by rw [dec_true h]
    have eb : (cond (decide (manyS op.Kind ≥ 0)) (cond (manyS op.Kind != (args.length : Int)) (some true) (cond (manyS op.Kind == (-1)) (some ((args.length : Int) == 0)) (some false))) (cond (manyS op.Kind == (-1)) (some ((args.length : Int) == 0)) (some false))) =
      some (decide ((manyS op.Kind ≥ 0 ∧ manyS op.Kind ≠ args.length) ∨ (manyS op.Kind = -1 ∧ args.length = 0))) := by
      by_cases h0 : manyS op.Kind ≥ 0
      · rw [dec_true h0, cond_true]
        by_cases h1 : manyS op.Kind = args.length
        · rw [bne_false h1, cond_false, show (manyS op.Kind == -1) = false by simp; omega, cond_false]
          exact nn (by omega)
        · rw [bne_true h1, cond_true]
          exact yy (.inl ⟨h0, h1⟩)
      · rw [dec_false h0, cond_false]
        by_cases h1 : manyS op.Kind = -1
        · rw [h1, show ((-1 : Int) == -1) = true from rfl, cond_true]
          congr 1
          rw [Bool.eq_iff_iff]
          simp
        · rw [show (manyS op.Kind == -1) = false by simp [h1], cond_false]
          exact nn (by omega)
    rw [eb]
    simp only [Option.bind_some]
    by_cases hc : (manyS op.Kind ≥ 0 ∧ manyS op.Kind ≠ args.length) ∨ (manyS op.Kind = -1 ∧ args.length = 0)
    · rw [dec_true hc, if_pos hc]; rfl
    · rw [dec_false hc, if_neg hc, cond_false, hl]
      by_cases h : firstW szE args = 0
      · rw [h]; rfl
      · rw [errI_pos h]; rfl
def finS (r : List Int × Int) : List Int × Int := if r.2 ≠ 0 then ([], r.2) else if (sizeS r.1).2 ≠ 0 then ([], (sizeS r.1).2) else (r.1, 0)
theorem fin_ok (fu : Nat) (d : List Int) (e : Int) (hd : d.length ≤ 4000000) (hf : 4000000 < fu) :
    (cond (e != 0) (some (([] : List Int), e)) ((F.view_Size fu d).bind fun ((r60, r61) : Int × Int) => cond (r61 != 0) (some (([] : List Int), r61)) (some (d, 0)))) = some (finS (d, e)) := by
  unfold finS
  by_cases h : e = 0
  · rw [if_neg (by simpa using h), bne_false h, cond_false, size_ok fu d hd hf]
    simp only [Option.bind_some]
    by_cases h2 : (sizeS d).2 = 0
    · rw [bne_false h2, if_neg (by omega)]; rfl
    · rw [bne_true h2, if_pos h2]; rfl
  · rw [if_pos h, bne_true h]; rfl
theorem dims2_of (fu : Nat) (op : SOp) (args : List (List Int)) (ha : okArgs args) (h0 : rightS op.Kind args.length = 0) (h1 : firstW szE args = 0) (r : List Int × Int) (hr : F.adjointref2_ruled fu op args = some r) (hd : r.1.length ≤ 4000000) (hf : 4000000 < fu) :
    F.adjointref2_Dims fu op args = some (finS r) := by
  unfold F.adjointref2_Dims
  rw [right_ok, h0]
  simp only [Option.bind_some]
  have hz := firstW_zero h1
  have hl := loop_acc (body := F.adjointref2_Dims_l1 fu args) args (fun k => (k : Int)) (Ex.brk () : Ex Unit (List Int × Int))
    (fun k x hx => by
      have hw := wrap_succ (get_lt hx) (by have := ha.1; omega)
      have hx0 : (sizeS x).2 = 0 := hz x (List.mem_of_getElem? hx)
      simp only [F.adjointref2_Dims_l1, dec_lt hx, cond_true, idx_nat hx, Option.bind_some, hw, refSize_ok fu x (by have := ha.2 x (List.mem_of_getElem? hx); omega) hf, bne_false hx0, cond_false])
    (by simp only [F.adjointref2_Dims_l1, dec_end, cond_false]) fu (by have := ha.1; omega)
  rw [show ((0 : Nat) : Int) = 0 from rfl] at hl
  rw [show ((0 : Int) != 0) = false from rfl, cond_false, hl]
  simp only [bindE, hr, Option.bind_some]
  obtain ⟨d, e⟩ := r
  unfold finS
  by_cases h : e = 0
  · simp only [h, bne_false rfl, cond_false, refSize_ok fu d hd hf, Option.bind_some]
    rw [if_neg (by simp)]
    by_cases h2 : (sizeS d).2 = 0
    · rw [bne_false h2, if_neg (by omega)]; rfl
    · rw [bne_true h2, if_pos h2]; rfl
  · simp only [bne_true h, cond_true]
    rw [if_pos h]
end Go.DN.Pl
