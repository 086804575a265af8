/-
  Arrays: the plain law: joined, paired.
-/
import Derived.Test.YtongekoajbcliaaAdT
set_option linter.unusedSectionVars false
set_option linter.unusedSimpArgs false
set_option linter.unusedVariables false
namespace Go.DN.Pl
open Go.AM Go.PL
def badJ (a x : List Int) (p : Nat) (i : Nat) : Bool := (i : Int) != (p : Int) && (atI x i != atI a i)
def fitJ (a x : List Int) (p : Nat) : Bool := decide (x.length = a.length) && !((List.range a.length).any (badJ a x p))
def sumJ (p : Nat) : Int → List (List Int) → Int
 | s, [] => s
 | s, x :: r => sumJ p (s + atI x p) r
def atOkJ (at_ : List Int) (args : List (List Int)) : Bool := !((at_.length : Int) != 1 || (decide (atI at_ 0 < 0) || decide (atI at_ 0 ≥ ((args.headD []).length : Int))))
def joinS (at_ : List Int) (args : List (List Int)) : List Int × Int :=
 if atOkJ at_ args then (if args.tail.all fun x => fitJ (args.headD []) x (atI at_ 0).toNat then ((args.headD []).set (atI at_ 0).toNat (sumJ (atI at_ 0).toNat (atI (args.headD []) (atI at_ 0).toNat) args.tail), 0) else ([], 6)) else ([], 6)
theorem sumJ_app (p : Nat) : ∀ (l : List (List Int)) (s : Int) (x : List Int), sumJ p s (l ++ [x]) = sumJ p s l + atI x p
 | [], s, x => rfl
 | y :: r, s, x => sumJ_app p r _ x
theorem sumJ_ran (p : Nat) : ∀ (l : List (List Int)) (s : Int), (∀ x ∈ l, 0 ≤ atI x p ∧ atI x p ≤ 4096) → s ≤ sumJ p s l ∧ sumJ p s l ≤ s + 4096 * (l.length : Int)
 | [], s, h => by simp [sumJ]
 | y :: r, s, h => by
  have h1 := h y List.mem_cons_self
  have h2 := sumJ_ran p r (s + atI y p) fun x hx => h x (List.mem_cons_of_mem _ hx)
  rw [show sumJ p s (y :: r) = sumJ p (s + atI y p) r from rfl, List.length_cons]
  omega
theorem atI_ran {d : List Int} (hr : ∀ x ∈ d, 0 ≤ x ∧ x ≤ 4096) (k : Nat) : 0 ≤ atI d k ∧ atI d k ≤ 4096 := by
  by_cases h : k < d.length
  · exact hr _ (List.mem_of_getElem? (get_atI h))
  · have : atI d k = 0 := by unfold atI; rw [List.getD_eq_getElem?_getD, List.getElem?_eq_none (by omega)]; rfl
    omega
theorem lpart1 {α : Type} (x : α) (r : List α) : lpart (x :: r) 1 ((x :: r).length : Int) = r := by
 unfold lpart
 simp
theorem atI_set {a : List Int} {p i : Nat} {v : Int} (h : i ≠ p) : atI (a.set p v) i = atI a i := by
 unfold atI
 rw [List.getD_eq_getElem?_getD, List.getD_eq_getElem?_getD, List.getElem?_set_ne (by omega)]
theorem atI_set_eq {a : List Int} {p : Nat} {v : Int} (h : p < a.length) : atI (a.set p v) p = v := by
 unfold atI
 rw [List.getD_eq_getElem?_getD, List.getElem?_set_self h]; rfl
theorem set_atI {a : List Int} {p : Nat} (h : p < a.length) : a.set p (atI a p) = a := by
 have := (List.getElem?_eq_some_iff.1 (get_atI h)).2
 rw [← this]; exact List.set_getElem_self h
theorem atOk_eq (at_ : List Int) (a : List Int) (r : List (List Int)) : (cond ((at_.length : Int) != 1) (some true) ((idx at_ 0).bind fun x3 =>
    cond (decide (x3 < 0)) (some true) ((idx at_ 0).bind fun x4 =>
    (idx (a :: r) 0).bind fun x5 =>
    some (decide (x4 ≥ (x5.length : Int)))))) = some (!(atOkJ at_ (a :: r))) := by
  unfold atOkJ
  by_cases h : at_.length = 1
  · have hx := get_atI (l := at_) (show 0 < at_.length by omega)
    have h0 := idx_nat hx
    have h1 : idx (a :: r) 0 = some a := idx_nat (i := 0) rfl
    rw [show ((0 : Nat) : Int) = 0 from rfl] at h0
    simp only [h0, h1, Option.bind_some, cc, Bool.not_not]
    rfl
  · rw [bne_true (show ¬ (at_.length : Int) = 1 by omega)]; rfl
theorem atOk_iff {at_ a : List Int} {r : List (List Int)} (h : atOkJ at_ (a :: r) = true) : at_.length = 1 ∧ ∃ p : Nat, atI at_ 0 = p ∧ p < a.length := by
 unfold atOkJ at h
 simp at h
 refine ⟨by omega, (atI at_ 0).toNat, by omega, by omega⟩
theorem joined1_ok (fu : Nat) (at_ a m x : List Int) (p : Nat) (h1 : at_.length = 1) (hp : atI at_ 0 = p) (hl : m.length = a.length) (hx : x.length = a.length) (hm : ∀ i, i ≠ p → atI m i = atI a i) (ha : a.length ≤ 4000000) (hf : 4000000 < fu) :
    loopF (F.array_joined_l1 fu at_ m x) fu 0 = some (if fitJ a x p then Ex.brk () else Ex.ret (Sum.inr (Ex.ret ([], 6)))) := by
  have i0 := idx_nat (get_atI (l := at_) (show 0 < at_.length by omega))
  rw [show ((0 : Nat) : Int) = 0 from rfl, hp] at i0
  have h := loop_at (body := F.array_joined_l1 fu at_ m x) a.length (fun k => (k : Int)) (fun k => if badJ a x p k then some (Ex.ret (Sum.inr (Ex.ret ([], 6))) : Ex Unit ((Int × List Int) ⊕ Ex (List Int) (List Int × Int))) else none) (Ex.brk ())
    (fun k hk _ => by
      have hw := wrap_succ hk (by omega)
      have hy := get_atI (l := m) (show k < m.length by omega)
      have hz := get_atI (l := x) (show k < x.length by omega)
      simp only [F.array_joined_l1, dec_lt hy, cond_true, i0, idx_nat hy, idx_nat hz, Option.bind_some, hw, cc2]
      unfold badJ
      by_cases e : k = p
      · subst e
        rw [bne_false rfl]
        simp
      · rw [hm k e]
        cases ((k : Int) != (p : Int)) && (atI x k != atI a k) <;> rfl)
    (fun _ => by rw [← hl]; simp only [F.array_joined_l1, dec_end, cond_false]) fu (by omega)
  rw [show ((0 : Nat) : Int) = 0 from rfl] at h
  rw [h, findCst]
  unfold fitJ
  rw [dec_true hx]
  cases (List.range a.length).any (badJ a x p) <;> rfl
theorem joined_ok (fu : Nat) (at_ a : List Int) (r : List (List Int)) (ha : a.length ≤ 4000000) (hr : r.length ≤ 4000000) (hd : ∀ x ∈ a :: r, ∀ y ∈ x, 0 ≤ y ∧ y ≤ 4096) (hf : 4000000 < fu) : F.array_joined fu at_ (a :: r) = some (joinS at_ (a :: r)) := by
  unfold F.array_joined joinS
  rw [atOk_eq]
  simp only [Option.bind_some]
  cases hj : atOkJ at_ (a :: r) with
  | false => rfl
  | true =>
    obtain ⟨h1, p, hp, hpa⟩ := atOk_iff hj
    have i0 := idx_nat (get_atI (l := at_) (show 0 < at_.length by omega))
    rw [show ((0 : Nat) : Int) = 0 from rfl, hp] at i0
    have ia : idx (a :: r) 0 = some a := idx_nat (i := 0) rfl
    have hra := atI_ran (d := a) (hd a List.mem_cons_self) p
    simp only [Bool.not_true, cond_false, ia, Option.bind_some, clone_ok fu a (by omega), List.headD_cons, List.tail_cons, if_true, hp, Int.toNat_natCast]
    rw [chk_pos (by simp only [List.length_cons]; omega)]
    simp only [Option.bind_some]
    have hrp : ∀ k, ∀ x ∈ r.take k, 0 ≤ atI x p ∧ atI x p ≤ 4096 := fun k x hx => atI_ran (hd x (List.mem_cons_of_mem _ (List.mem_of_mem_take hx))) p
    have h := loop_ends (body := F.array_joined_l2 fu at_ (a :: r)) r (fun k => ((k : Int), a.set p (sumJ p (atI a p) (r.take k)))) (fun x => if fitJ a x p then none else some (Ex.ret ([], 6))) (Ex.brk (a.set p (sumJ p (atI a p) r)))
      (fun k x hx => by
        have hw := wrap_succ (get_lt hx) (by omega)
        have hlm : (a.set p (sumJ p (atI a p) (r.take k))).length = a.length := List.length_set
        simp only [F.array_joined_l2, lpart1, dec_lt hx, cond_true, idx_nat hx, Option.bind_some, hw]
        rw [hlm]
        by_cases hxl : x.length = a.length
        · have hm := joined1_ok fu at_ a (a.set p (sumJ p (atI a p) (r.take k))) x p h1 hp hlm hxl (fun i hi => atI_set hi) ha hf
          rw [bne_false (by omega), cond_false, hm]
          cases hfj : fitJ a x p with
          | false => rfl
          | true =>
            have ix := get_atI (l := x) (show p < x.length by omega)
            have im : idx (a.set p (sumJ p (atI a p) (r.take k))) (p : Int) = some (sumJ p (atI a p) (r.take k)) := idx_nat (List.getElem?_set_self hpa)
            have s1 := sumJ_ran p (r.take k) (atI a p) (hrp k)
            have s2 := atI_ran (d := x) (hd x (List.mem_cons_of_mem _ (List.mem_of_getElem? hx))) p
            have hlt := lenT hx
            have := get_lt hx
            have w : IntKind.i64.wrap (sumJ p (atI a p) (r.take k) + atI x p) = sumJ p (atI a p) (r.take k) + atI x p := i64 (by omega) (by omega)
            simp only [if_true, bindE, i0, im, idx_nat ix, Option.bind_some, w, Int.toNat_natCast, List.set_set, take_succ hx, sumJ_app]
        · rw [bne_true (by omega), cond_true]
          have : fitJ a x p = false := by unfold fitJ; rw [dec_false hxl]; rfl
          rw [this]; rfl)
      (by simp only [F.array_joined_l2, lpart1, dec_end, cond_false, List.take_length]) fu (by omega)
    rw [show sumJ p (atI a p) (r.take 0) = atI a p from rfl, set_atI hpa, show ((0 : Nat) : Int) = 0 from rfl, findAll] at h
    rw [h]
    cases r.all fun x => fitJ a x p <;> rfl
theorem join1_ok (fu : Nat) (op : SOp) (a m x : List Int) (p : Nat) (h1 : op.At.length = 1) (hp : atI op.At 0 = p) (hpa : p < a.length) (hl : m.length = a.length) (hx : x.length = a.length) (hm : ∀ i, i ≠ p → atI m i = atI a i) (ha : a.length ≤ 4000000)
    (hr : -8000000000000000000 ≤ atI m p ∧ atI m p ≤ 8000000000000000000) (hr2 : 0 ≤ atI x p ∧ atI x p ≤ 4096) (hf : 4000000 < fu) :
    loopF (F.adjointref2_joinDims_l1 fu op x) fu (0, m) = some (if fitJ a x p then Ex.brk (m.set p (atI m p + atI x p)) else Ex.ret (Sum.inr (Ex.ret ([], 6)))) := by
  have i0 := idx_nat (get_atI (l := op.At) (show 0 < op.At.length by omega))
  rw [show ((0 : Nat) : Int) = 0 from rfl, hp] at i0
  have h := loop_at (body := F.adjointref2_joinDims_l1 fu op x) a.length (fun k => ((k : Int), if p < k then m.set p (atI m p + atI x p) else m)) (fun k => if badJ a x p k then some (Ex.ret (Sum.inr (Ex.ret ([], 6))) : Ex (List Int) ((Int × List Int) ⊕ Ex (List Int) (List Int × Int))) else none) (Ex.brk (m.set p (atI m p + atI x p)))
    (fun k hk _ => by
      have hw := wrap_succ hk (by omega)
      have hz := get_atI (l := x) (show k < x.length by omega)
      simp only [F.adjointref2_joinDims_l1, dec_lt hz, cond_true, i0, Option.bind_some]
      unfold badJ
      by_cases e : k = p
      · subst e
        have hy := get_atI (l := m) (show k < m.length by omega)
        have w : IntKind.i64.wrap (atI m k + atI x k) = atI m k + atI x k := i64 (by omega) (by omega)
        simp only [beq_self_eq_true, cond_true, if_neg (show ¬ k < k by omega), idx_nat hy, idx_nat hz, Option.bind_some, w, bindE, hw, Int.toNat_natCast, if_pos (show k < k + 1 by omega), bne_self_eq_false, Bool.false_and, Bool.false_eq_true, if_false]
      · have hb : ((k : Int) == (p : Int)) = false := by simp; omega
        have hb2 : ((k : Int) != (p : Int)) = true := by simp; omega
        have e2 : (if p < k + 1 then m.set p (atI m p + atI x p) else m) = (if p < k then m.set p (atI m p + atI x p) else m) := by
          by_cases h : p < k
          · rw [if_pos h, if_pos (by omega)]
          · rw [if_neg h, if_neg (by omega)]
        have hy : (if p < k then m.set p (atI m p + atI x p) else m)[k]? = some (atI a k) := by
          rw [← hm k e]
          split
          · rw [List.getElem?_set_ne (by omega)]; exact get_atI (by omega)
          · exact get_atI (by omega)
        rw [hb, hb2, e2]
        simp only [cond_false, idx_nat hy, idx_nat hz, Option.bind_some, Bool.true_and]
        cases atI x k != atI a k
        · simp only [cond_false, bindE, Option.bind_some, hw, Bool.false_eq_true, if_false]
        · rfl)
    (fun _ => by rw [← hx]; simp only [F.adjointref2_joinDims_l1, dec_end, cond_false]; rw [if_pos (by omega)]) fu (by omega)
  rw [show ((0 : Nat) : Int) = 0 from rfl, if_neg (show ¬ p < 0 by omega)] at h
  rw [h, findCst]
  unfold fitJ
  rw [dec_true hx]
  cases (List.range a.length).any (badJ a x p) <;> rfl
theorem joinDims_ok (fu : Nat) (op : SOp) (a : List Int) (r : List (List Int)) (ha : a.length ≤ 4000000) (hr : r.length ≤ 4000000) (hd : ∀ x ∈ a :: r, ∀ y ∈ x, 0 ≤ y ∧ y ≤ 4096) (hf : 4000000 < fu) : F.adjointref2_joinDims fu op (a :: r) = some (joinS op.At (a :: r)) := by
  unfold F.adjointref2_joinDims joinS
  rw [atOk_eq]
  simp only [Option.bind_some]
  cases hj : atOkJ op.At (a :: r) with
  | false => rfl
  | true =>
    obtain ⟨h1, p, hp, hpa⟩ := atOk_iff hj
    have ia : idx (a :: r) 0 = some a := idx_nat (i := 0) rfl
    have hra := atI_ran (d := a) (hd a List.mem_cons_self) p
    simp only [Bool.not_true, cond_false, ia, Option.bind_some, List.headD_cons, List.tail_cons, if_true, hp, Int.toNat_natCast]
    rw [chk_app (by simp only [List.length_nil]; omega) (by simp only [List.length_nil]; omega), chk_pos (by simp only [List.length_cons]; omega)]
    simp only [Option.bind_some, List.nil_append]
    have hrp : ∀ k, ∀ x ∈ r.take k, 0 ≤ atI x p ∧ atI x p ≤ 4096 := fun k x hx => atI_ran (hd x (List.mem_cons_of_mem _ (List.mem_of_mem_take hx))) p
    have h := loop_ends (body := F.adjointref2_joinDims_l2 fu op (a :: r)) r (fun k => ((k : Int), a.set p (sumJ p (atI a p) (r.take k)))) (fun x => if fitJ a x p then none else some (Ex.ret ([], 6))) (Ex.brk (a.set p (sumJ p (atI a p) r)))
      (fun k x hx => by
        have hw := wrap_succ (get_lt hx) (by omega)
        have hlm : (a.set p (sumJ p (atI a p) (r.take k))).length = a.length := List.length_set
        simp only [F.adjointref2_joinDims_l2, lpart1, dec_lt hx, cond_true, idx_nat hx, Option.bind_some, hw]
        rw [hlm]
        by_cases hxl : x.length = a.length
        · have s1 := sumJ_ran p (r.take k) (atI a p) (hrp k)
          have s2 := atI_ran (d := x) (hd x (List.mem_cons_of_mem _ (List.mem_of_getElem? hx))) p
          have hlt := lenT hx
          have := get_lt hx
          have em : atI (a.set p (sumJ p (atI a p) (r.take k))) p = sumJ p (atI a p) (r.take k) := atI_set_eq hpa
          have hm := join1_ok fu op a (a.set p (sumJ p (atI a p) (r.take k))) x p h1 hp hpa hlm hxl (fun i hi => atI_set hi) ha (by rw [em]; omega) s2 hf
          rw [bne_false (by omega), cond_false, hm]
          cases hfj : fitJ a x p with
          | false => rfl
          | true => simp only [if_true, bindE, List.set_set, take_succ hx, sumJ_app, em]
        · rw [bne_true (by omega), cond_true]
          have : fitJ a x p = false := by unfold fitJ; rw [dec_false hxl]; rfl
          rw [this]; rfl)
      (by simp only [F.adjointref2_joinDims_l2, lpart1, dec_end, cond_false, List.take_length]) fu (by omega)
    rw [show sumJ p (atI a p) (r.take 0) = atI a p from rfl, set_atI hpa, show ((0 : Nat) : Int) = 0 from rfl, findAll] at h
    rw [h]
    cases r.all fun x => fitJ a x p <;> rfl
end Go.DN.Pl
