/-
  Arrays: the plain law of rows: Put, Inner, sums over rows.
-/
import Derived.Test.YtcbaolgciiieeaaGreatRwH
set_option linter.unusedSectionVars false
set_option linter.unusedSimpArgs false
set_option linter.unusedVariables false
set_option maxRecDepth 20000
namespace Go.DN.Pl
open Go.AM Go.PL
theorem mk_set {m W v k : Nat} {f : Nat → Nat → Int} (hv : v < m) (hk : k < W) (z : Int) : (mk m W f).set (v * W + k) z = mk m W fun i j => if i = v ∧ j = k then z else f i j := by
  apply List.ext_getElem?
  intro p
  by_cases hp : p < m * W
  · have hW : 0 < W := by omega
    have e : p = p / W * W + p % W := by rw [Nat.mul_comm]; exact (Nat.div_add_mod p W).symm
    have hq : p / W < m := Nat.div_lt_of_lt_mul (by rw [Nat.mul_comm]; exact hp)
    have hj : p % W < W := Nat.mod_lt _ hW
    generalize p / W = q at e hq
    generalize p % W = j at e hj
    subst e
    rw [mk_get hq hj, List.getElem?_set, mk_get hq hj]
    by_cases c : q = v ∧ j = k
    · obtain ⟨rfl, rfl⟩ := c
      rw [if_pos rfl, if_pos (by rw [mk_len]; exact hp), if_pos ⟨rfl, rfl⟩]
    · rw [if_neg c, if_neg]
      intro h
      have h1 := row_div (i := v) hk
      have h2 := row_div (i := q) hj
      rw [h] at h1
      exact c ⟨h2.1.symm.trans h1.1, h2.2.symm.trans h1.2⟩
  · rw [List.getElem?_eq_none (by rw [List.length_set, mk_len]; omega), List.getElem?_eq_none (by rw [mk_len]; omega)]
theorem row_in {m W v : Nat} (hv : v < m) : v * W + W ≤ m * W := by
 have := Nat.mul_le_mul_right W (show v + 1 ≤ m from hv)
 rwa [Nat.add_mul, Nat.one_mul] at this
theorem fill2_ok (fu : Nat) (y : List Int) (m W v : Nat) (f : Nat → Nat → Int) (hv : v < m) (hy : y.length = W) (hmw : m * W ≤ 65536) (hf : 4000000 < fu) :
    F.array_fill_2 fu y ((v * W : Nat) : Int) ((W : Nat) : Int) (mk m W f) = some (mk m W fun i j => if i = v then IntKind.i64.wrap (f i j + atI y j) else f i j) := by
  have hr := row_in (W := W) hv
  have h := loop_acc (body := F.array_fill_2_l1 fu y ((W : Nat) : Int)) y (fun k => ((k : Int), ((v * W : Nat) : Int), ((W : Nat) : Int), mk m W fun i j => if i = v ∧ j < k then IntKind.i64.wrap (f i j + atI y j) else f i j)) (mk m W fun i j => if i = v then IntKind.i64.wrap (f i j + atI y j) else f i j) (fun k x hx => by
    have hk : k < W := by have := get_lt hx; omega
    have hxa : atI y k = x := atI_get hx
    have hg : (mk m W fun i j => if i = v ∧ j < k then IntKind.i64.wrap (f i j + atI y j) else f i j)[v * W + k]? = some (f v k) := by
      rw [mk_get hv hk, if_neg (by omega)]
    have c1 : chk ((0 : Int) ≤ (k : Int) ∧ (k : Int) < ((W : Nat) : Int)) = some () := chk_pos ⟨by omega, by omega⟩
    have d1 : decide ((k : Int) < ((W : Nat) : Int)) = true := dec_true (by omega)
    have w1 := wrap_succ hk (show W ≤ 9223372036854775807 by omega)
    simp only [F.array_fill_2_l1, Int.toNat_natCast, d1, cond_true, c1, Option.bind_some, hg, idx_nat hx, w1, mk_set hv hk]
    congr 1
    congr 1
    congr 1
    congr 1
    congr 1
    refine mk_ext fun i j hi hj => ?_
    by_cases c : i = v ∧ j = k
    · obtain ⟨rfl, rfl⟩ := c
      rw [if_pos ⟨rfl, rfl⟩, if_pos ⟨rfl, by omega⟩, hxa]
    · rw [if_neg c]
      by_cases c2 : i = v ∧ j < k
      · rw [if_pos c2, if_pos ⟨c2.1, by omega⟩]
      · rw [if_neg c2, if_neg (by omega)])
    (by
      simp only [F.array_fill_2_l1, Int.toNat_natCast, hy, dec_false (show ¬ ((W : Int) < (W : Int)) by omega), cond_false]
      congr 1
      congr 1
      refine mk_ext fun i j hi hj => ?_
      by_cases c : i = v
      · rw [if_pos ⟨c, hj⟩, if_pos c]
      · rw [if_neg (by omega), if_neg c]) fu (by omega)
  have e0 : (mk m W fun i j => if i = v ∧ j < 0 then IntKind.i64.wrap (f i j + atI y j) else f i j) = mk m W f := mk_ext fun i j _ _ => by rw [if_neg (by omega)]
  have h' : loopF (F.array_fill_2_l1 fu y ((W : Nat) : Int)) fu (0, ((v * W : Nat) : Int), ((W : Nat) : Int), mk m W f) = some (mk m W fun i j => if i = v then IntKind.i64.wrap (f i j + atI y j) else f i j) := by
    rw [← e0]; exact h
  unfold F.array_fill_2
  simp only [Int.toNat_natCast, h', Option.bind_some]
def putN (bs us : List Int) (W : Nat) : Nat → Nat → Nat → Int
 | 0, _, _ => 0
 | n + 1, i, j => if atI bs n = (i : Int) then IntKind.i64.wrap (putN bs us W n i j + atI us (n * W + j)) else putN bs us W n i j
theorem atI_rows {l : List Int} {o W j : Nat} (h : j < W) : atI ((List.range W).map fun j => atI l (o + j)) j = atI l (o + j) := atI_get (by rw [List.getElem?_map, List.getElem?_range h]; rfl)
theorem rowsP_ok (fu : Nat) (num u : SArray) (z d : List Int) (X W nb : Nat) (hz : z = mk X W fun _ _ => 0) (hn : num.Data.length = nb) (hu : u.Data.length = nb * W) (hnb : 0 < nb) (hT : nb * W ≤ 65536) (hX : X * W ≤ 65536) (hX4 : X ≤ 4096) (hnl : nb ≤ 65536) (hf : 4000000 < fu) :
    loopF (F.array_rows_2_l1 fu num u (X : Int)) fu (0, z, d) = some (mk X W (putN num.Data u.Data W nb), d) := by
  have hw : IntKind.wrap .i64 (Int.tdiv (u.Data.length : Int) (num.Data.length : Int)) = (W : Int) := by
    rw [hu, hn, row_w hnb, wrapN]
    rcases Nat.eq_zero_or_pos W with h0 | h0
    · omega
    · have := Nat.le_mul_of_pos_left W hnb
      omega
  have h := loop_acc (body := F.array_rows_2_l1 fu num u (X : Int)) num.Data (fun i => ((i : Int), mk X W (putN num.Data u.Data W i), d)) (mk X W (putN num.Data u.Data W nb), d) (fun i v hv => by
    have hi : i < nb := by have := get_lt hv; omega
    have hva : atI num.Data i = v := atI_get hv
    have r1 := row_in (W := W) hi
    have w1 : IntKind.i64.wrap ((i : Int) + 1) = ((i + 1 : Nat) : Int) := wrap_succ hi (by omega)
    have w2 : IntKind.i64.wrap ((i : Int) * (W : Int)) = ((i * W : Nat) : Int) := wrapM (by omega)
    have w3 : IntKind.i64.wrap (((i + 1 : Nat) : Int) * (W : Int)) = (((i + 1) * W : Nat) : Int) := wrapM (by rw [Nat.add_mul, Nat.one_mul]; omega)
    have hcc : (cond (decide (v ≥ 0)) (some (decide (v < (X : Int)))) (some false)) = some (decide (v ≥ 0) && decide (v < (X : Int))) := cc2 _ _
    have hlen : (mk X W (putN num.Data u.Data W i)).length = X * W := mk_len _ _ _
    simp only [F.array_rows_2_l1, dec_lt hv, cond_true, idx_nat hv, Option.bind_some, hcc, hw, w1, w2, w3]
    cases hb : (decide (v ≥ 0) && decide (v < (X : Int))) with
    | false =>
      simp only [cond_false, Option.bind_some]
      congr 1
      congr 1
      congr 1
      congr 1
      refine mk_ext fun i' j hi' hj => ?_
      simp only [putN]
      rw [hva, if_neg]
      intro hh
      simp at hb
      omega
    | true =>
      simp only [Bool.and_eq_true, decide_eq_true_eq] at hb
      obtain ⟨v', rfl⟩ : ∃ v' : Nat, v = (v' : Int) := ⟨v.toNat, by omega⟩
      have hv'X : v' < X := by omega
      have r2 := row_in (W := W) hv'X
      have w4 : IntKind.i64.wrap ((v' : Int) * (W : Int)) = ((v' * W : Nat) : Int) := wrapM (by omega)
      have w5 : IntKind.i64.wrap (((v' + 1 : Nat) : Int) * (W : Int)) = (((v' + 1) * W : Nat) : Int) := wrapM (by rw [Nat.add_mul, Nat.one_mul]; omega)
      have w6 : IntKind.i64.wrap ((v' : Int) + 1) = ((v' + 1 : Nat) : Int) := by rw [show ((v' : Int) + 1) = ((v' + 1 : Nat) : Int) by omega]; exact wrapN (by omega)
      have e1 : (i + 1) * W = i * W + W := by rw [Nat.add_mul, Nat.one_mul]
      have e2 : (v' + 1) * W = v' * W + W := by rw [Nat.add_mul, Nat.one_mul]
      have c1 : chk ((0 : Int) ≤ ((i * W : Nat) : Int) ∧ ((i * W : Nat) : Int) ≤ (((i + 1) * W : Nat) : Int) ∧ (((i + 1) * W : Nat) : Int) ≤ (u.Data.length : Int)) = some () := chk_pos ⟨by omega, by omega, by rw [hu]; omega⟩
      have c2 : chk ((0 : Int) ≤ ((v' * W : Nat) : Int) ∧ ((v' * W : Nat) : Int) ≤ (((v' + 1) * W : Nat) : Int) ∧ (((v' + 1) * W : Nat) : Int) ≤ (((mk X W (putN num.Data u.Data W i)).length : Nat) : Int)) = some () := chk_pos ⟨by omega, by omega, by rw [hlen]; omega⟩
      have hpart := part_at (l := u.Data) (v := i) (W := W) (by rw [hu]; exact r1)
      have hfill := fill2_ok fu ((List.range W).map fun j => atI u.Data (i * W + j)) X W v' (putN num.Data u.Data W i) hv'X (by simp) hX hf
      have he : (mk X W fun i' j => if i' = v' then IntKind.i64.wrap (putN num.Data u.Data W i i' j + atI ((List.range W).map fun j => atI u.Data (i * W + j)) j) else putN num.Data u.Data W i i' j) = mk X W (putN num.Data u.Data W (i + 1)) := by
        refine mk_ext fun i' j hi' hj => ?_
        simp only [putN, hva]
        by_cases c : i' = v'
        · subst c
          rw [if_pos rfl, if_pos rfl, atI_rows hj]
        · rw [if_neg c, if_neg (by omega)]
      rw [he] at hfill
      have hbq : Nat.beq (List.length (mk X W (putN num.Data u.Data W (i + 1)))) (List.length (mk X W (putN num.Data u.Data W i))) = true := by rw [mk_len, mk_len]; exact Nat.beq_refl _
      simp only [cond_true, w4, w6, w5, c1, c2, Option.bind_some, hpart, Int.toNat_natCast, Nat.zero_add, show (v' + 1) * W - v' * W = W by omega, hfill, hbq])
    (by
      simp only [F.array_rows_2_l1, dec_end, cond_false]
      rw [hn]) fu (by omega)
  have e0 : z = mk X W (putN num.Data u.Data W 0) := by
    rw [hz]
    exact mk_ext fun i' j _ _ => rfl
  rw [e0]
  exact h
theorem wrap2 (x : Int) : IntKind.i64.wrap (IntKind.i64.wrap x) = IntKind.i64.wrap x := by
 have := wadd_l x 0
 rwa [Int.add_zero, Int.add_zero] at this
theorem putN_sum (bs us : List Int) (W i j : Nat) : ∀ n, IntKind.i64.wrap (putN bs us W n i j) = IntKind.i64.wrap (sumN n fun l => if atI bs l = (i : Int) then atI us (l * W + j) else 0)
 | 0 => rfl
 | n + 1 => by
  have ih := putN_sum bs us W i j n
  simp only [putN, sumN]
  split
  · rw [wrap2, ← wadd_l, ih, wadd_l]
  · rw [ih, Int.add_zero]
theorem inner_ok (fu : Nat) (a b : SArray) (ha : wrongA a = 0) (hb : wrongA b = 0) (hd : a.Dims = b.Dims) (hf : 4000000 < fu) : F.array_Inner fu a b = some (dotF a.Data.length (atI a.Data) (atI b.Data), 0) := by
 obtain ⟨a1, a2⟩ := wrongA_zero ha
 obtain ⟨b1, b2⟩ := wrongA_zero hb
 have hal := (size_small a1).1
 have hbl := (size_small b1).1
 have hr := (size_ran' a1).2
 have hlen : b.Data.length = a.Data.length := by rw [hd] at a2; omega
 unfold F.array_Inner
 simp only [wrongA_ok fu a (by omega) hf, wrongA_ok fu b (by omega) hf, ha, hb, Option.bind_some, bne_false, cond_false, equal_ok fu _ _ (show a.Dims.length ≤ 4000000 by omega) hf, dec_true hd, Bool.not_true]
 have h := loop_acc (body := F.array_Inner_l1 fu a b) a.Data (fun k => (dotF k (atI a.Data) (atI b.Data), (k : Int))) (dotF a.Data.length (atI a.Data) (atI b.Data)) (fun k x hx => by
  have hk := get_lt hx
  have hxa : atI a.Data k = x := atI_get hx
  have hy := get_atI (l := b.Data) (show k < b.Data.length by omega)
  simp only [F.array_Inner_l1, dec_lt hx, cond_true, idx_nat hx, idx_nat hy, Option.bind_some, wrap_succ hk (show a.Data.length ≤ 9223372036854775807 by omega), dotF_succ, hxa])
  (by simp only [F.array_Inner_l1, dec_end, cond_false]) fu (by omega)
 have h' : loopF (F.array_Inner_l1 fu a b) fu (0, 0) = some (dotF a.Data.length (atI a.Data) (atI b.Data)) := h
 rw [h']
 rfl
theorem sumN_cat (g : Nat → Int) (a : Nat) : ∀ b, sumN (a + b) g = sumN a g + sumN b fun l => g (a + l)
 | 0 => by rw [sumN, Int.add_zero]; rfl
 | b + 1 => by rw [← Nat.add_assoc, sumN, sumN, sumN_cat g a b, Int.add_assoc]
theorem sumN_rows (g : Nat → Int) (W : Nat) : ∀ m, sumN (m * W) g = sumN m fun i => sumN W fun j => g (i * W + j)
 | 0 => by rw [Nat.zero_mul]; rfl
 | m + 1 => by rw [Nat.add_mul, Nat.one_mul, sumN_cat, sumN_rows g W m]; rfl
theorem sumN_ind (h : Nat → Int) (b : Int) : ∀ X, (sumN X fun i => if b = (i : Int) then h i else 0) = if 0 ≤ b ∧ b < (X : Int) then h b.toNat else 0
  | 0 => by rw [if_neg (by omega)]; rfl
  | X + 1 => by
    rw [sumN, sumN_ind h b X]
    by_cases c : b = (X : Int)
    · rw [if_neg (by omega), if_pos c, if_pos (by omega), c, Int.toNat_natCast, Int.zero_add]
    · rw [if_neg c, Int.add_zero]
      by_cases d : 0 ≤ b ∧ b < (X : Int)
      · rw [if_pos d, if_pos (by omega)]
      · rw [if_neg d, if_neg (by omega)]
theorem rows_sum (xs bs us : List Int) (X W nb : Nat) :
  dotF (nb * W) (atI (mk nb W (takeF xs bs X W))) (atI us) = dotF (X * W) (atI xs) (atI (mk X W (putN bs us W nb))) := by
 rw [dotF_sum, dotF_sum, sumN_rows, sumN_rows]
 have hl : (sumN nb fun n => sumN W fun j => atI (mk nb W (takeF xs bs X W)) (n * W + j) * atI us (n * W + j)) = sumN nb fun n => sumN W fun j => takeF xs bs X W n j * atI us (n * W + j) :=
  sumN_ext fun n hn => sumN_ext fun j hj => by rw [atI_get (mk_get hn hj)]
 have hr : IntKind.i64.wrap (sumN X fun i => sumN W fun j => atI xs (i * W + j) * atI (mk X W (putN bs us W nb)) (i * W + j)) = IntKind.i64.wrap (sumN X fun i => sumN W fun j => sumN nb fun n => if atI bs n = (i : Int) then atI xs (i * W + j) * atI us (n * W + j) else 0) :=
  wrap_sum fun i hi => wrap_sum fun j hj => by
   rw [atI_get (mk_get hi hj), ← wmul_r, putN_sum, wmul_r, Int.mul_comm, sumN_mul]
   congr 1
   refine sumN_ext fun n hn => ?_
   split
   · exact Int.mul_comm _ _
   · exact Int.zero_mul _
 rw [hl, hr]
 congr 1
 have s1 : (sumN X fun i => sumN W fun j => sumN nb fun n => if atI bs n = (i : Int) then atI xs (i * W + j) * atI us (n * W + j) else 0) = sumN X fun i => sumN nb fun n => sumN W fun j => if atI bs n = (i : Int) then atI xs (i * W + j) * atI us (n * W + j) else 0 :=
  sumN_ext fun i _ => sumN_swap (fun j n => if atI bs n = (i : Int) then atI xs (i * W + j) * atI us (n * W + j) else 0) nb W
 rw [s1, sumN_swap (fun i n => sumN W fun j => if atI bs n = (i : Int) then atI xs (i * W + j) * atI us (n * W + j) else 0) nb X]
 refine sumN_ext fun n _ => ?_
 rw [sumN_swap (fun i j => if atI bs n = (i : Int) then atI xs (i * W + j) * atI us (n * W + j) else 0) W X]
 refine sumN_ext fun j _ => ?_
 rw [sumN_ind (fun i => atI xs (i * W + j) * atI us (n * W + j)) (atI bs n) X]
 unfold takeF
 split
 · rfl
 · exact Int.zero_mul _
end Go.DN.Pl
