/-
  Arrays: the plain law of rows: Take.
-/
import Derived.Test.YtcbaolgciiieeaaGreatRwG
set_option linter.unusedSectionVars false
set_option linter.unusedSimpArgs false
set_option linter.unusedVariables false
set_option maxRecDepth 20000
namespace Go.DN.Pl
open Go.AM Go.PL
theorem part_at {l : List Int} {v W : Nat} (h : v * W + W ≤ l.length) : lpart l ((v * W : Nat) : Int) (((v + 1) * W : Nat) : Int) = (List.range W).map fun j => atI l (v * W + j) := by
 unfold lpart
 rw [Int.toNat_natCast, Int.toNat_natCast, show (v + 1) * W - v * W = W by rw [Nat.add_mul, Nat.one_mul]; omega]
 apply List.ext_getElem?
 intro j
 by_cases hj : j < W
 · rw [List.getElem?_take, if_pos hj, List.getElem?_drop, get_atI (by omega), List.getElem?_map, List.getElem?_range hj]; rfl
 · rw [List.getElem?_eq_none (by rw [List.length_take]; omega), List.getElem?_eq_none (by simp; omega)]
def takeF (few bs : List Int) (X W : Nat) (i j : Nat) : Int := if 0 ≤ atI bs i ∧ atI bs i < (X : Int) then atI few ((atI bs i).toNat * W + j) else 0
theorem rowsT_ok (fu : Nat) (num few : SArray) (z d : List Int) (X W nb : Nat) (hz : z = mk nb W fun _ _ => 0) (hn : num.Data.length = nb) (hf0 : few.Data.length = X * W) (hnb : 0 < nb) (hT : nb * W ≤ 65536) (hX : X * W ≤ 65536) (hX4 : X ≤ 4096) (hnl : nb ≤ 65536) (hf : 4000000 < fu) :
    loopF (F.array_rows_l1 fu num few z (X : Int)) fu (0, z, d) = some (mk nb W (takeF few.Data num.Data X W), d) := by
  have hzl : z.length = nb * W := by rw [hz, mk_len]
  have hw : IntKind.wrap .i64 (Int.tdiv (z.length : Int) (num.Data.length : Int)) = (W : Int) := by
    rw [hzl, hn, row_w hnb, wrapN]
    rcases Nat.eq_zero_or_pos W with h0 | h0
    · omega
    · have := Nat.le_mul_of_pos_left W hnb
      omega
  have h := loop_acc (body := F.array_rows_l1 fu num few z (X : Int)) num.Data (fun i => ((i : Int), mk nb W (fun i' j => if i' < i then takeF few.Data num.Data X W i' j else 0), d)) (mk nb W (takeF few.Data num.Data X W), d) (fun i v hv => by
    have hi : i < nb := by have := get_lt hv; omega
    have hva : atI num.Data i = v := atI_get hv
    have r1 : i * W + W ≤ nb * W := by
      have := Nat.mul_le_mul_right W (show i + 1 ≤ nb from hi)
      rwa [Nat.add_mul, Nat.one_mul] at this
    have w1 : IntKind.i64.wrap ((i : Int) + 1) = ((i + 1 : Nat) : Int) := wrap_succ hi (by omega)
    have w2 : IntKind.i64.wrap ((i : Int) * (W : Int)) = ((i * W : Nat) : Int) := wrapM (by omega)
    have w3 : IntKind.i64.wrap (((i + 1 : Nat) : Int) * (W : Int)) = (((i + 1) * W : Nat) : Int) := wrapM (by rw [Nat.add_mul, Nat.one_mul]; omega)
    have hcc : (cond (decide (v ≥ 0)) (some (decide (v < (X : Int)))) (some false)) = some (decide (v ≥ 0) && decide (v < (X : Int))) := cc2 _ _
    have hlen : (mk nb W (fun i' j => if i' < i then takeF few.Data num.Data X W i' j else 0)).length = nb * W := mk_len _ _ _
    simp only [F.array_rows_l1, dec_lt hv, cond_true, idx_nat hv, Option.bind_some, hcc, hw, w1, w2, w3]
    cases hb : (decide (v ≥ 0) && decide (v < (X : Int))) with
    | false =>
      simp only [cond_false, Option.bind_some]
      congr 1
      congr 1
      congr 1
      congr 1
      refine mk_ext fun i' j hi' hj => ?_
      by_cases c : i' < i
      · rw [if_pos c, if_pos (by omega)]
      · rw [if_neg c]
        by_cases c2 : i' = i
        · subst c2
          rw [if_pos (by omega)]
          unfold takeF
          rw [hva, if_neg]
          intro hh
          simp at hb
          omega
        · rw [if_neg (by omega)]
    | true =>
      simp only [Bool.and_eq_true, decide_eq_true_eq] at hb
      obtain ⟨v', rfl⟩ : ∃ v' : Nat, v = (v' : Int) := ⟨v.toNat, by omega⟩
      have hv'X : v' < X := by omega
      have r2 : v' * W + W ≤ X * W := by
        have := Nat.mul_le_mul_right W (show v' + 1 ≤ X from hv'X)
        rwa [Nat.add_mul, Nat.one_mul] at this
      have w4 : IntKind.i64.wrap ((v' : Int) * (W : Int)) = ((v' * W : Nat) : Int) := wrapM (by omega)
      have w5 : IntKind.i64.wrap (((v' + 1 : Nat) : Int) * (W : Int)) = (((v' + 1) * W : Nat) : Int) := wrapM (by rw [Nat.add_mul, Nat.one_mul]; omega)
      have w6 : IntKind.i64.wrap ((v' : Int) + 1) = ((v' + 1 : Nat) : Int) := by rw [show ((v' : Int) + 1) = ((v' + 1 : Nat) : Int) by omega]; exact wrapN (by omega)
      have e1 : (i + 1) * W = i * W + W := by rw [Nat.add_mul, Nat.one_mul]
      have e2 : (v' + 1) * W = v' * W + W := by rw [Nat.add_mul, Nat.one_mul]
      have c1 : chk ((0 : Int) ≤ ((i * W : Nat) : Int) ∧ ((i * W : Nat) : Int) ≤ (((i + 1) * W : Nat) : Int) ∧ (((i + 1) * W : Nat) : Int) ≤ (((mk nb W (fun i' j => if i' < i then takeF few.Data num.Data X W i' j else 0)).length : Nat) : Int)) = some () := chk_pos ⟨by omega, by omega, by rw [hlen]; omega⟩
      have c2 : chk ((0 : Int) ≤ ((v' * W : Nat) : Int) ∧ ((v' * W : Nat) : Int) ≤ (((v' + 1) * W : Nat) : Int) ∧ (((v' + 1) * W : Nat) : Int) ≤ (few.Data.length : Int)) = some () := chk_pos ⟨by omega, by omega, by rw [hf0]; omega⟩
      have hpart := part_at (l := few.Data) (v := v') (W := W) (by rw [hf0]; exact r2)
      have hput := mk_put (m := nb) (W := W) (f := fun i' j => if i' < i then takeF few.Data num.Data X W i' j else 0) (g := fun j => atI few.Data (v' * W + j)) hi
      have hmin : Nat.min ((List.range W).map fun j => atI few.Data (v' * W + j)).length W = W := by rw [List.length_map, List.length_range]; exact Nat.min_self W
      have hcpy : cpy (mk nb W (fun i' j => if i' < i then takeF few.Data num.Data X W i' j else 0)) ((List.range W).map fun j => atI few.Data (v' * W + j)) (i * W) W = mk nb W (fun i' j => if i' < i + 1 then takeF few.Data num.Data X W i' j else 0) := by
        unfold cpy
        rw [hmin, show ((List.range W).map fun j => atI few.Data (v' * W + j)).take W = (List.range W).map fun j => atI few.Data (v' * W + j) from List.take_of_length_le (by rw [List.length_map, List.length_range]; exact Nat.le_refl W), hput]
        refine mk_ext fun i' j hi' hj => ?_
        by_cases c : i' = i
        · subst c
          rw [if_pos rfl, if_pos (by omega)]
          unfold takeF
          rw [hva, if_pos ⟨by omega, by omega⟩, Int.toNat_natCast]
        · rw [if_neg c]
          by_cases c2 : i' < i
          · rw [if_pos c2, if_pos (by omega)]
          · rw [if_neg c2, if_neg (by omega)]
      have hfill : F.array_fill_1 fu ((i * W : Nat) : Int) ((W : Nat) : Int) ((List.range W).map fun j => atI few.Data (v' * W + j)) (mk nb W (fun i' j => if i' < i then takeF few.Data num.Data X W i' j else 0)) = some (mk nb W (fun i' j => if i' < i + 1 then takeF few.Data num.Data X W i' j else 0)) := by
        unfold F.array_fill_1
        rw [Int.toNat_natCast, Int.toNat_natCast, chk_pos (by rw [hlen]; omega), hcpy]
        rfl
      have hbq : Nat.beq (List.length (mk nb W (fun i' j => if i' < i + 1 then takeF few.Data num.Data X W i' j else 0))) (List.length (mk nb W (fun i' j => if i' < i then takeF few.Data num.Data X W i' j else 0))) = true := by rw [mk_len, mk_len]; exact Nat.beq_refl _
      simp only [cond_true, w4, w6, w5, c1, c2, Option.bind_some, hpart, Int.toNat_natCast, Nat.zero_add, show (i + 1) * W - i * W = W by omega, hfill, hbq])
    (by
      simp only [F.array_rows_l1, dec_end, cond_false]
      congr 1
      congr 1
      congr 1
      exact mk_ext fun i' j hi' hj => by rw [if_pos (by omega)]) fu (by omega)
  have e0 : (mk nb W (fun i' j => if i' < 0 then takeF few.Data num.Data X W i' j else 0)) = z := by
    rw [hz]
    exact mk_ext fun i' j _ _ => by rw [if_neg (by omega)]
  rw [← e0]
  rw [e0] at h ⊢
  exact h
end Go.DN.Pl
