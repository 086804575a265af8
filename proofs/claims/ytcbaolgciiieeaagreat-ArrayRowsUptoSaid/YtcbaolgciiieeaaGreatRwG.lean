/-
  Arrays: the plain law of rows: rows that are taken.
-/
import Derived.Test.YtcbaolgciiieeaaGreatRwF
import Derived.Test.YtcbaolgciiieeaaGreatMkA
set_option linter.unusedSectionVars false
set_option linter.unusedSimpArgs false
set_option linter.unusedVariables false
set_option maxRecDepth 20000
namespace Go.DN.Pl
open Go.AM Go.PL
theorem row_w {nb W : Nat} (h : 0 < nb) : Int.tdiv ((nb * W : Nat) : Int) (nb : Int) = (W : Int) := by
 rw [← Int.ofNat_tdiv, Nat.mul_div_cancel_left W h]
theorem wrapN {n : Nat} (h : n ≤ 4000000000) : IntKind.i64.wrap (n : Int) = (n : Int) := i64 (by omega) (by omega)
theorem wrapM {i W : Nat} (h : i * W ≤ 4000000000) : IntKind.i64.wrap ((i : Int) * (W : Int)) = ((i * W : Nat) : Int) := by
 rw [← Int.natCast_mul, wrapN h]
theorem seg_get {l s : List Int} {o n p : Nat} (ho : o + n ≤ l.length) (hs : s.length = n) : (l.take o ++ s ++ l.drop (o + n))[p]? = if p < o then l[p]? else if p < o + n then s[p - o]? else l[p]? := by
  have h1 : (l.take o).length = o := by rw [List.length_take]; omega
  by_cases a : p < o
  · rw [if_pos a, List.append_assoc, List.getElem?_append_left (by omega), List.getElem?_take, if_pos a]
  · rw [if_neg a]
    by_cases b : p < o + n
    · rw [if_pos b, List.getElem?_append_left (by rw [List.length_append]; omega), List.getElem?_append_right (by omega), h1]
    · rw [if_neg b, List.getElem?_append_right (by rw [List.length_append]; omega), List.length_append, h1, hs, List.getElem?_drop]
      congr 1
      omega
theorem mk_put {m W i : Nat} {f : Nat → Nat → Int} {g : Nat → Int} (hi : i < m) : (mk m W f).take (i * W) ++ (List.range W).map g ++ (mk m W f).drop (i * W + W) = mk m W fun i' j => if i' = i then g j else f i' j := by
  have hr : i * W + W ≤ m * W := by
    have : (i + 1) * W ≤ m * W := Nat.mul_le_mul_right W hi
    rwa [Nat.add_mul, Nat.one_mul] at this
  apply List.ext_getElem?
  intro p
  rw [seg_get (by rw [mk_len]; exact hr) (by simp)]
  by_cases hp : p < m * W
  · have hW : 0 < W := by
      rcases Nat.eq_zero_or_pos W with h0 | h0
      · rw [h0, Nat.mul_zero] at hp; omega
      · exact h0
    have e : p = p / W * W + p % W := by rw [Nat.mul_comm]; exact (Nat.div_add_mod p W).symm
    have hq : p / W < m := Nat.div_lt_of_lt_mul (by rw [Nat.mul_comm]; exact hp)
    have hj : p % W < W := Nat.mod_lt _ hW
    generalize p / W = q at e hq
    generalize p % W = j at e hj
    subst e
    rw [mk_get hq hj, mk_get hq hj]
    by_cases c : q = i
    · subst c
      rw [if_neg (by omega), if_pos (by omega), if_pos rfl, Nat.add_sub_cancel_left, List.getElem?_map, List.getElem?_range hj]; rfl
    · rw [if_neg c]
      have : q * W + j < i * W ∨ ¬ (q * W + j < i * W + W) := by
        rcases Nat.lt_or_gt_of_ne c with h | h
        · left
          have := Nat.mul_le_mul_right W (show q + 1 ≤ i from h)
          rw [Nat.add_mul, Nat.one_mul] at this
          omega
        · right
          have := Nat.mul_le_mul_right W (show i + 1 ≤ q from h)
          rw [Nat.add_mul, Nat.one_mul] at this
          omega
      rcases this with h | h
      · rw [if_pos h]
      · rw [if_neg (by omega), if_neg h]
  · have h1 : (mk m W f)[p]? = none := List.getElem?_eq_none (by rw [mk_len]; omega)
    rw [if_neg (by omega), if_neg (by omega), h1, List.getElem?_eq_none (by rw [mk_len]; omega)]
end Go.DN.Pl
