/-
  Orders: the plain law: strips.
-/
import Derived.Test.YtfkigaldejbeiaaOtQ
set_option linter.unusedSectionVars false
set_option linter.unusedSimpArgs false
set_option linter.unusedVariables false
namespace Go.DN.Pl
open Go.AM Go.PL
theorem grow_ok (fu : Nat) (n : Nat) (hn : n ≤ 10000000) : Go.Proofs.Ytfkigaldejbeiaa.F.slices_Grow fu (n : Int) = some [] := by
  unfold Go.Proofs.Ytfkigaldejbeiaa.F.slices_Grow
  have h0 : IntKind.i64.wrap (0 - 0) = 0 := by rw [i64 (by omega) (by omega)]; rfl
  have h1 : IntKind.i64.wrap ((n : Int) - 0) = n := by rw [i64 (by omega) (by omega)]; omega
  simp only [h0, h1, dec_false (show ¬ ((n : Int) < 0) by omega), cond_false, Option.bind_some]
  by_cases h : (n : Int) > 0
  · rw [dec_true h, cond_true, chk_pos (by omega)]
    simp only [Option.bind_some]
    rw [chk_pos (by omega)]
    rfl
  · rw [dec_false h, cond_false]
theorem concat_ok (fu : Nat) (ls : List (List Int)) (h1 : ls.length ≤ 1000) (h2 : ls.flatten.length ≤ 10000000) (hf : 1000 < fu) : Go.Proofs.Ytfkigaldejbeiaa.F.slices_Concat fu ls = some ls.flatten := by
 have hpre : ∀ k, (ls.take k).flatten.length ≤ ls.flatten.length := fun k => by
  conv => rhs; rw [← List.take_append_drop k ls]
  rw [List.flatten_append, List.length_append]; omega
 have hstep : ∀ k x, ls[k]? = some x → (ls.take (k + 1)).flatten = (ls.take k).flatten ++ x := fun k x hx => by
  rw [take_succ hx, List.flatten_append]; simp
 unfold Go.Proofs.Ytfkigaldejbeiaa.F.slices_Concat
 have hl1 := loop_acc (body := Go.Proofs.Ytfkigaldejbeiaa.F.slices_Concat_l1 fu ls) ls (fun k => (((ls.take k).flatten.length : Int), (k : Int))) (ls.flatten.length : Int)
  (fun k x hx => by
   have hw := wrap_succ (get_lt hx) (by omega)
   have e := hstep k x hx
   have h3 := hpre (k + 1)
   have e2 : ((ls.take (k + 1)).flatten.length : Int) = (ls.take k).flatten.length + x.length := by rw [e, List.length_append]; omega
   have h4 : IntKind.i64.wrap (((ls.take k).flatten.length : Int) + (x.length : Int)) = (ls.take (k + 1)).flatten.length := by rw [i64 (by omega) (by omega)]; omega
   simp only [Go.Proofs.Ytfkigaldejbeiaa.F.slices_Concat_l1, dec_lt hx, cond_true, idx_nat hx, Option.bind_some, hw, h4, dec_false (show ¬ (((ls.take (k + 1)).flatten.length : Int) < 0) by omega), cond_false])
  (by simp only [Go.Proofs.Ytfkigaldejbeiaa.F.slices_Concat_l1, dec_end, cond_false, List.take_length]) fu (by omega)
 have hl2 := loop_acc (body := Go.Proofs.Ytfkigaldejbeiaa.F.slices_Concat_l2 fu ls) ls (fun k => ((k : Int), (ls.take k).flatten)) ls.flatten
  (fun k x hx => by
   have hw := wrap_succ (get_lt hx) (by omega)
   have e := hstep k x hx
   have h3 := hpre (k + 1)
   have h5 : (ls.take k).flatten.length + x.length ≤ 10000000 := by rw [e, List.length_append] at h3; omega
   simp only [Go.Proofs.Ytfkigaldejbeiaa.F.slices_Concat_l2, dec_lt hx, cond_true, idx_nat hx, Option.bind_some, hw, chk_app (n := 8) (show ((ls.take k).flatten.length + x.length) * 8 ≤ 140737488355328 by omega) (by omega), e])
  (by simp only [Go.Proofs.Ytfkigaldejbeiaa.F.slices_Concat_l2, dec_end, cond_false, List.take_length]) fu (by omega)
 simp only [List.take_zero, List.flatten_nil, List.length_nil] at hl1 hl2
 rw [show ((0 : Nat) : Int) = 0 from rfl] at hl1 hl2
 simp only [hl1, Option.bind_some, grow_ok fu _ h2, hl2]
theorem clone_ok (fu : Nat) (s : List Int) (hs : s.length ≤ 10000000) : F.slices_Clone fu s = some s := by
  unfold F.slices_Clone
  have hc : chk (([] : List Int).length + s.length ≤ maxLen ∧ (([] : List Int).length + s.length) * 8 ≤ 140737488355328) = some () := chk_app (by simp only [List.length_nil]; omega) (by simp only [List.length_nil]; omega)
  rw [hc]
  simp only [Option.bind_some, List.nil_append]
  unfold nilF
  split
  · rename_i h
    have : s = [] := List.eq_nil_of_length_eq_zero (by omega)
    subst this
    simp
  · rfl
def stripL (c : List Int) (k : Nat) (z : Int) : List Int := c.take k ++ [IntKind.i64.wrap (c.getD k 0 * z)] ++ c.drop k
def stripR (k : Nat) (z : Int) (r : SRow) : SRow := ⟨stripL r.Coef k z, r.Const⟩
theorem strip1_ok (fu : Nat) (r : SRow) (k : Nat) (z : Int) (hk : k < r.Coef.length) (hr : r.Coef.length ≤ 4000000) (hf : 1000 < fu) : F.order_Strip_1 fu r k z = some (stripR k z r) := by
 unfold F.order_Strip_1 stripR
 have hx := List.getElem?_eq_getElem hk
 have hc : chk ((0 : Int) ≤ (k : Int) ∧ (k : Int) ≤ (r.Coef.length : Int)) = some () := chk_pos (by omega)
 have e : [lpart r.Coef 0 (k : Int), [IntKind.i64.wrap (r.Coef[k] * z)], lpart r.Coef (k : Int) (r.Coef.length : Int)].flatten = stripL r.Coef k z := by
  unfold stripL lpart
  rw [List.getD_eq_getElem?_getD, hx]
  simp
  exact List.take_of_length_le (by simp)
 have hlen : [lpart r.Coef 0 (k : Int), [IntKind.i64.wrap (r.Coef[k] * z)], lpart r.Coef (k : Int) (r.Coef.length : Int)].flatten.length ≤ 10000000 := by
  rw [e]; unfold stripL; simp; omega
 simp only [hc, Option.bind_some, idx_nat hx, concat_ok fu _ (by simp) hlen hf, e]
theorem own1_ok (fu : Nat) (r : SRow) (hr : r.Coef.length ≤ 4000000) : F.order_own_1 fu r = some r := by
 unfold F.order_own_1
 rw [clone_ok fu _ (by omega)]
 rfl
theorem own_ok (fu : Nat) (s : SStmt) (hs : Sm s) (hf : 4000000 < fu) : F.order_own fu s = some s := by
 have hb := hs.box
 unfold F.order_own
 simp only [amb_self, amb2_self, own1_ok fu _ hs.put, Option.bind_some, clone_ok fu _ (show s.Over.Box.length ≤ 10000000 by omega)]
 have hr := hs.rows
 have hg := hs.gets
 have hl1 := loop_acc (body := F.order_own_l1 fu s) s.Over.Rows (fun k => ((k : Int), s.Over.Rows.take k, s.Over.Box, s.Do, s.Value, s.Put.Array, s.Put.At.Coef, s.Put.At.Const)) (s.Over.Rows, s.Over.Box, s.Do, s.Value, s.Put.Array, s.Put.At.Coef, s.Put.At.Const)
  (fun k x hx => by
   have hw := wrap_succ (get_lt hx) (by omega)
   have hk := get_lt hx
   have hc : chk ((s.Over.Rows.take k).length + [x].length ≤ maxLen ∧ ((s.Over.Rows.take k).length + [x].length) * 32 ≤ 140737488355328) = some () := chk_app (by rw [lenT hx]; simp only [List.length_singleton]; omega) (by rw [lenT hx]; simp only [List.length_singleton]; omega)
   simp only [F.order_own_l1, dec_lt hx, cond_true, idx_nat hx, Option.bind_some, hw, own1_ok fu x (hs.row x (List.mem_of_getElem? hx)), amb_self, amb2_self, hc, take_succ hx])
  (by simp only [F.order_own_l1, dec_end, cond_false, List.take_length]) fu (by omega)
 have hl2 := loop_acc (body := F.order_own_l2 fu s) s.Get (fun k => ((k : Int), s.Get.take k, s.Over.Box, s.Do, s.Value, s.Put.Array, s.Put.At.Coef, s.Put.At.Const)) (s.Get, s.Over.Box, s.Do, s.Value, s.Put.Array, s.Put.At.Coef, s.Put.At.Const)
  (fun k x hx => by
   have hw := wrap_succ (get_lt hx) (by omega)
   have hk := get_lt hx
   have hc : ∀ y : SAccess, chk ((s.Get.take k).length + [y].length ≤ maxLen ∧ ((s.Get.take k).length + [y].length) * 40 ≤ 140737488355328) = some () := fun y => chk_app (by rw [lenT hx]; simp only [List.length_singleton]; omega) (by rw [lenT hx]; simp only [List.length_singleton]; omega)
   simp only [F.order_own_l2, dec_lt hx, cond_true, idx_nat hx, Option.bind_some, hw, own1_ok fu x.At (hs.get x (List.mem_of_getElem? hx)), amb_self, amb2_self, hc, take_succ hx])
  (by simp only [F.order_own_l2, dec_end, cond_false, List.take_length]) fu (by omega)
 simp only [List.take_zero] at hl1 hl2
 rw [show ((0 : Nat) : Int) = 0 from rfl] at hl1 hl2
 simp only [hl1, hl2, Option.bind_some]
end Go.DN.Pl
