/-
  Arrays: the plain law of rows: the reference's Take answers.
-/
import Derived.Test.YtcbaolgciiieeaaGreatRwC
set_option linter.unusedSectionVars false
set_option linter.unusedSimpArgs false
set_option linter.unusedVariables false
set_option maxRecDepth 20000
namespace Go.DN.Pl
open Go.AM Go.PL
theorem atI_app_l {a b : List Int} {k : Nat} (h : k < a.length) : atI (a ++ b) k = atI a k := by
 refine atI_get ?_
 rw [List.getElem?_append_left h]; exact get_atI h
theorem atI_app_r {a b : List Int} {k : Nat} : atI (a ++ b) (a.length + k) = atI b k := by
 unfold atI
 rw [List.getD_eq_getElem?_getD, List.getD_eq_getElem?_getD, List.getElem?_append_right (by omega), Nat.add_sub_cancel_left]
theorem atI_take {a : List Int} {n k : Nat} (h : k < n) : atI (a.take n) k = atI a k := by
 unfold atI
 rw [List.getD_eq_getElem?_getD, List.getD_eq_getElem?_getD, List.getElem?_take, if_pos h]
theorem atI_drop {a : List Int} {n k : Nat} : atI (a.drop n) k = atI a (n + k) := by
 unfold atI
 rw [List.getD_eq_getElem?_getD, List.getD_eq_getElem?_getD, List.getElem?_drop]
theorem okIx_left {d e a : List Int} (h : okIx (d ++ e) a) : okIx d (a.take d.length) := by
 have hl := h.1
 rw [List.length_append] at hl
 refine ⟨by rw [List.length_take]; omega, fun k hk => ?_⟩
 have := h.2 k (by rw [List.length_append]; omega)
 rw [atI_app_l hk] at this
 rwa [atI_take hk]
theorem okIx_right {d e a : List Int} (h : okIx (d ++ e) a) : okIx e (a.drop d.length) := by
 have hl := h.1
 rw [List.length_append] at hl
 refine ⟨by rw [List.length_drop]; omega, fun k hk => ?_⟩
 have := h.2 (d.length + k) (by rw [List.length_append]; omega)
 rw [atI_app_r] at this
 rwa [atI_drop]
theorem okIx_cons {x i : Int} {d a : List Int} (h : okIx d a) (h0 : 0 ≤ i) (h1 : i < x) : okIx (x :: d) (i :: a) := by
 refine ⟨by rw [List.length_cons, List.length_cons, h.1], fun k hk => ?_⟩
 match k, hk with
 | 0, _ => exact ⟨h0, h1⟩
 | k + 1, hk => exact h.2 k (by rw [List.length_cons] at hk; omega)
def takeOp : SOp := ⟨18, [], [], [], [], [], 0⟩
theorem entry_take (fu : Nat) (a b : SArray) (x : Int) (r at_ : List Int) (n : Int) (hd : a.Dims = x :: r) (sa : (sizeS a.Dims).2 = 0) (la : (sizeS a.Dims).1 = (a.Data.length : Int)) (sb : (sizeS b.Dims).2 = 0) (lb : (sizeS b.Dims).1 = (b.Data.length : Int))
  (hz : hasB (b.Dims ++ r) 0 = false) (hat : okIx (b.Dims ++ r) at_) (hf : 4000000 < fu) : ∃ v, F.adjointref2_entry fu takeOp [a, b] at_ n = some v := by
 have hal := hat.1
 rw [List.length_append] at hal
 rw [hasB_app, Bool.or_eq_false_iff] at hz
 have b6 := (size_small sb).1
 have a6 := (size_small sa).1
 have hc : chk ((0 : Int) ≤ (b.Dims.length : Int) ∧ (b.Dims.length : Int) ≤ (at_.length : Int)) = some () := chk_pos ⟨by omega, by omega⟩
 obtain ⟨v, hv⟩ := get_ok fu b (at_.take b.Dims.length) sb lb hz.1 (okIx_left hat) hf
 have hv' : F.adjointref2_Get fu b (lpart at_ 0 (b.Dims.length : Int)) = some v := by rw [lpart_take]; exact hv
 have hix : idx a.Dims 0 = some x := by rw [hd]; exact idx0 x r
 unfold F.adjointref2_entry
 simp only [show takeOp.Kind = 18 from rfl, Int.reduceBEq, cond_false, cond_true, idx0, idx1, Option.bind_some, hc, hv', hix, cc]
 cases hb : (decide (v < 0) || decide (v ≥ x)) with
 | true => exact ⟨0, rfl⟩
 | false =>
  rw [Bool.or_eq_false_iff] at hb
  have v0 : ¬ (v < 0) := by simpa using hb.1
  have v1 : ¬ (v ≥ x) := by simpa using hb.2
  have hr := okIx_right hat
  have ha0 : hasB a.Dims 0 = false := by
   rw [hd]
   have e : hasB (x :: r) 0 = ((x == 0) || hasB r 0) := rfl
   rw [e, hz.2, Bool.or_false]
   simp
   omega
  have hok : okIx a.Dims (v :: at_.drop b.Dims.length) := by rw [hd]; exact okIx_cons hr (by omega) (by omega)
  obtain ⟨w, hw⟩ := get_ok fu a (v :: at_.drop b.Dims.length) sa la ha0 hok hf
  have hbo : F.adjointref2_both fu [v] (lpart at_ (b.Dims.length : Int) (at_.length : Int)) = some (v :: at_.drop b.Dims.length) := by
   rw [lpart_drop, both_ok fu _ _ (by simp) (by rw [List.length_drop]; rw [hd] at a6; simp only [List.length_cons] at a6; omega)]
   rfl
  simp only [cond_false, hbo, Option.bind_some, hw]
  exact ⟨w, rfl⟩
end Go.DN.Pl
