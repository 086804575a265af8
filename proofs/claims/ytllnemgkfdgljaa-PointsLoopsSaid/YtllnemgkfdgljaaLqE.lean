/-
  Points: the plain law of PointsLoops: which loops are made.
-/
import Derived.Test.YtllnemgkfdgljaaLqD
set_option linter.unusedSectionVars false
set_option linter.unusedSimpArgs false
set_option linter.unusedVariables false
namespace Go.DN
open Go.AM
theorem map_set {β : Type} {f g : Nat → β} {n j : Nat} (h : ∀ k, k ≠ j → g k = f k) : (List.range n).map g = ((List.range n).map f).set j (g j) := by
 apply List.ext_getElem (by simp)
 intro i h1 h2
 rw [List.getElem_set]
 simp only [List.getElem_map, List.getElem_range]
 split
 · rename_i e; rw [e]
 · rename_i e; exact h i fun h => e h.symm
theorem loopAt_succ (p : SPoints) {i : Nat} {r : SRow} (hr : p.Rows[i]? = some r) (k : Nat) : loopAt p (i + 1) k = ⟨(loopAt p i k).Lows ++ (lowB k r).toList, (loopAt p i k).Highs ++ (highB k r).toList⟩ := by
 have h : p.Rows.take (i + 1) = p.Rows.take i ++ [r] := by rw [List.take_add_one, hr]; rfl
 unfold loopAt
 rw [h, List.filterMap_append, List.filterMap_append]
 have e : ∀ f : SRow → Option SBound, List.filterMap f [r] = (f r).toList := fun f => by
  cases h : f r <;> simp [h]
 rw [e, e]
 simp
theorem loopAt_len (p : SPoints) (h8 : p.Rows.length ≤ 8) (i k : Nat) : (loopAt p i k).Lows.length ≤ 9 ∧ (loopAt p i k).Highs.length ≤ 9 := by
 have h1 : ∀ f : SRow → Option SBound, ((p.Rows.take i).filterMap f).length ≤ 8 := fun f => by
  have := List.length_filterMap_le f (p.Rows.take i)
  rw [List.length_take] at this
  omega
 have h2 := h1 (lowB k)
 have h3 := h1 (highB k)
 simp only [loopAt, List.length_cons]
 omega
def startAt (p : SPoints) (j : Nat) : List SLoop := (List.range j).map (loopAt p 0) ++ List.replicate (p.Box.length - j) ⟨[], []⟩
theorem startAt_get (p : SPoints) {j : Nat} (h : j < p.Box.length) : (startAt p j)[j]? = some ⟨[], []⟩ := by
 unfold startAt
 rw [List.getElem?_append_right (by simp)]
 simp only [List.length_map, List.length_range, Nat.sub_self]
 rw [List.getElem?_replicate, if_pos (by omega)]
theorem startAt_len (p : SPoints) {j : Nat} (h : j ≤ p.Box.length) : (startAt p j).length = p.Box.length := by
 unfold startAt
 simp only [List.length_append, List.length_map, List.length_range, List.length_replicate]
 omega
theorem startAt_set (p : SPoints) {j : Nat} (h : j < p.Box.length) : (startAt p j).set j (loopAt p 0 j) = startAt p (j + 1) := by
 unfold startAt
 have e : p.Box.length - j = (p.Box.length - (j + 1)) + 1 := by omega
 rw [List.set_append_right _ _ (by simp), e, List.replicate_succ]
 simp only [List.length_map, List.length_range, Nat.sub_self, List.set_cons_zero]
 rw [List.range_succ, List.map_append, List.append_assoc]
 rfl
theorem l1_ok (fu : Nat) {p : SPoints} (g : Good p) (hf : 100 < fu) : loopF (F.points_Loops_l1 fu p) fu (0, startAt p 0) = some (loopsAt p 0) := by
 have h4 := g.len
 have hend : startAt p p.Box.length = loopsAt p 0 := by unfold startAt loopsAt; rw [Nat.sub_self]; simp
 have := PL.loop_acc (body := F.points_Loops_l1 fu p) p.Box (fun j => ((j : Int), startAt p j)) (loopsAt p 0)
  (fun j b hb => by
   have hj := get_lt hb
   have hr := g.box b (List.mem_of_getElem? hb)
   have hw := wrap_succ hj (by omega)
   have hl := startAt_len p (Nat.le_of_lt hj)
   have hg := startAt_get p hj
   have hgd : p.Box.getD j 0 = b := by rw [List.getD_eq_getElem?_getD, hb]; rfl
   have hwb : IntKind.i64.wrap (b - 1) = b - 1 := i64 (by omega) (by omega)
   have c0 : chk ((0 : Int) ≤ (j : Int) ∧ (j : Int) < ((startAt p j).length : Int)) = some () := chk_pos (by omega)
   have c1 : chk ((0 : Int) ≤ (j : Int) ∧ (j : Int) ≤ (j : Int) ∧ ((8 : Nat) : Int) * (j : Int) ≤ 281474976710656 ∧ (j : Int) ≤ 9223372036854775807) = some () := chk_pos (by omega)
   have c2 : ∀ (x : SBound), chk (([] : List SBound).length + [x].length ≤ maxLen ∧ (([] : List SBound).length + [x].length) * 40 ≤ 140737488355328) = some () := fun x => chk_pos (by simp [maxLen])
   have c3 : ∀ [Decidable (j * 2 + 0 = j * 2 + 0)], chk (j * 2 + 0 = j * 2 + 0) = some () := chk_pos rfl
   have c4 : ∀ [Decidable (j * 2 + 1 = j * 2 + 1)], chk (j * 2 + 1 = j * 2 + 1) = some () := chk_pos rfl
   have c5 : ∀ [Decidable True], chk True = some () := chk_pos trivial
   have hl2 : ∀ x : SLoop, ((startAt p j).set j x).length = p.Box.length := fun x => by rw [List.length_set, hl]
   have hg2 : ∀ x : SLoop, ((startAt p j).set j x)[j]? = some x := fun x => List.getElem?_set_self (by omega)
   have c6 : ∀ x : SLoop, chk ((0 : Int) ≤ (j : Int) ∧ (j : Int) < (((startAt p j).set j x).length : Int)) = some () := fun x => chk_pos (by rw [hl2]; omega)
   simp only [F.points_Loops_l1, dec_lt hb, cond_true, idx_nat hb, Option.bind_some, c0, c1, c2, c3, c5, Int.toNat_natCast, hg, amb2_self, amb_self, List.nil_append, hwb, c6, hg2, c4, List.set_set, hw]
   rw [← startAt_set p hj]
   unfold loopAt
   rw [hgd]
   rfl)
  (by simp only [F.points_Loops_l1, dec_end, cond_false, hend]) fu (by omega)
 exact this
theorem map_neg_loop (fu : Nat) (c : List Int) (a b : Int) (hl : c.length ≤ 4) (hc : ∀ x ∈ c, -1048576 ≤ x ∧ x ≤ 1048576) (hf : 100 < fu) : loopF (F.points_Loops_l2 fu c) fu (0, c, a, b) = some (c.map (fun y => -y), a, b) := by
 have := PL.loop_acc (body := F.points_Loops_l2 fu c) c (fun j => ((j : Int), (c.take j).map (fun y => -y) ++ c.drop j, a, b)) (c.map (fun y => -y), a, b)
  (fun j x hx => by
   have hj := get_lt hx
   have hw := wrap_succ hj (by omega)
   have hr := hc x (List.mem_of_getElem? hx)
   have hwn : IntKind.i64.wrap (0 - x) = -x := by rw [i64 (by omega) (by omega)]; omega
   have hlt : ((c.take j).map fun y => -y).length = j := by rw [List.length_map, List.length_take]; omega
   have hg : ((c.take j).map (fun y => -y) ++ c.drop j)[j]? = some x := by
    rw [List.getElem?_append_right (by omega), hlt, Nat.sub_self, List.getElem?_drop, Nat.add_zero, hx]
   have hs : ((c.take j).map (fun y => -y) ++ c.drop j).set j (-x) = (c.take (j + 1)).map (fun y => -y) ++ c.drop (j + 1) := by
    rw [List.set_append_right _ _ (by omega), hlt, Nat.sub_self, List.drop_eq_getElem_cons hj, List.set_cons_zero, List.take_add_one, hx]
    simp
   simp only [F.points_Loops_l2, dec_lt hx, cond_true, idx_nat hg, Option.bind_some, hwn, Int.toNat_natCast, hs, hw])
  (by simp only [F.points_Loops_l2, dec_end, cond_false, List.take_length, List.drop_length, List.append_nil]) fu (by omega)
 simpa using this
theorem loopsAt_len (p : SPoints) (i : Nat) : (loopsAt p i).length = p.Box.length := by unfold loopsAt; simp
theorem loopsAt_get (p : SPoints) (i : Nat) {k : Nat} (h : k < p.Box.length) : (loopsAt p i)[k]? = some (loopAt p i k) := by
 unfold loopsAt
 rw [List.getElem?_map, List.getElem?_range h]; rfl
theorem loopsAt_step (p : SPoints) {i : Nat} {r : SRow} (hr : p.Rows[i]? = some r) (j : Nat) (h : ∀ k, k ≠ j → lowB k r = none ∧ highB k r = none) :
  loopsAt p (i + 1) = (loopsAt p i).set j ⟨(loopAt p i j).Lows ++ (lowB j r).toList, (loopAt p i j).Highs ++ (highB j r).toList⟩ := by
 unfold loopsAt
 rw [map_set (f := loopAt p i) (g := loopAt p (i + 1)) (j := j) (fun k hk => by
  rw [loopAt_succ p hr, (h k hk).1, (h k hk).2]
  simp)]
 rw [loopAt_succ p hr]
theorem l3_ok (fu : Nat) {p : SPoints} (g : Good p) (hf : 100 < fu) : loopF (F.points_Loops_l3 fu p) fu (0, loopsAt p 0) = some (loopsAt p p.Rows.length) := by
  have h4 := g.len
  have h8 := g.rows
  have := PL.loop_acc (body := F.points_Loops_l3 fu p) p.Rows (fun j => ((j : Int), loopsAt p j)) (loopsAt p p.Rows.length)
    (fun i r hr => by
      have hi := get_lt hr
      obtain ⟨hlen, hcst, hcf⟩ := g.row r (List.mem_of_getElem? hr)
      have hw := wrap_succ hi (by omega)
      have hlast := last_ok fu r (by omega) (by omega)
      have hll := loopsAt_len p i
      simp only [F.points_Loops_l3, dec_lt hr, cond_true, idx_nat hr, Option.bind_some, hlast, hw]
      rcases lastI_cases r.Coef with ⟨h1, h2⟩ | ⟨k, h1, h2, h3, h5⟩
      · -- a row of no numbers
        have d : decide (lastI r.Coef < 0) = true := by rw [h1]; rfl
        simp only [d, cond_true]
        have hlow : ∀ k, lowB k r = none := fun k => by unfold lowB; rw [if_neg (by omega)]
        by_cases hc : r.Const < 0
        · by_cases h0 : 0 < p.Box.length
          · have dl : decide (((loopsAt p i).length : Int) > 0) = true := by simp; omega
            have d2 : decide (r.Const < 0) = true := by simpa using hc
            have hg := loopsAt_get p i h0
            have hL := loopAt_len p h8 i 0
            have c0 : chk ((0 : Int) ≤ 0 ∧ (0 : Int) < ((loopsAt p i).length : Int)) = some () := chk_pos (by omega)
            have c2 : ∀ (x : SBound), chk ((loopAt p i 0).Highs.length + [x].length ≤ maxLen ∧ ((loopAt p i 0).Highs.length + [x].length) * 40 ≤ 140737488355328) = some () := fun x => chk_pos (by simp only [List.length_singleton, maxLen]; omega)
            have c3 : ∀ q : Prop, q → ∀ [Decidable q], chk q = some () := fun q h => chk_pos h
            have c5 : ∀ [Decidable True], chk True = some () := chk_pos trivial
            have hh0 : highB 0 r = some ⟨⟨[], -1⟩, 1⟩ := by unfold highB; rw [if_neg (by omega), if_pos ⟨h1, rfl, hc⟩]
            have hst := loopsAt_step p hr 0 fun k hk => ⟨hlow k, by unfold highB; rw [if_neg (by omega), if_neg (by omega)]⟩
            have hz : (0 : Int).toNat = 0 := rfl
            rw [hlow 0, hh0] at hst
            simp only [Option.toList_none, List.append_nil, Option.toList_some] at hst
            simp only [d2, cond_true, dl, Option.bind_some, c0, hz, hg, c2]
            rw [hst]
            simp only [c3 (0 * 2 + 1 = 0 * 2 + 1) rfl, c5, Option.bind_some]
          · have dl : decide (((loopsAt p i).length : Int) > 0) = false := PL.dec_false (by omega)
            have d2 : decide (r.Const < 0) = true := by simpa using hc
            have he : loopsAt p (i + 1) = loopsAt p i := by
              rw [List.eq_nil_of_length_eq_zero (show (loopsAt p (i + 1)).length = 0 by rw [loopsAt_len]; omega), List.eq_nil_of_length_eq_zero (show (loopsAt p i).length = 0 by rw [loopsAt_len]; omega)]
            simp only [d2, cond_true, dl, Option.bind_some, cond_false, he]
        · have d2 : decide (r.Const < 0) = false := by simpa using hc
          have hst : loopsAt p (i + 1) = loopsAt p i := by
            unfold loopsAt
            refine List.map_congr_left fun k _ => ?_
            rw [loopAt_succ p hr, hlow k, show highB k r = none by unfold highB; rw [if_neg (by omega), if_neg (by omega)]]
            simp
          simp only [d2, cond_false, Option.bind_some, hst]
      · have d : decide (lastI r.Coef < 0) = false := by rw [h1]; simp
        have hk : k < p.Box.length := by omega
        have hgk : r.Coef[k]? = some (r.Coef.getD k 0) := getD_of h2
        have hck := hcf _ (getD_mem h2)
        have htk : lpart r.Coef 0 (k : Int) = r.Coef.take k := by simp [lpart]
        have hcl := clone_ok fu (r.Coef.take k) (by rw [List.length_take]; omega)
        have c0 : chk ((0 : Int) ≤ (k : Int) ∧ (k : Int) ≤ (r.Coef.length : Int)) = some () := chk_pos (by omega)
        have c1 : chk ((0 : Int) ≤ (k : Int) ∧ (k : Int) < ((loopsAt p i).length : Int)) = some () := chk_pos (by omega)
        have c3 : ∀ q : Prop, q → ∀ [Decidable q], chk q = some () := fun q h => chk_pos h
        have c5 : ∀ [Decidable True], chk True = some () := chk_pos trivial
        have hg := loopsAt_get p i hk
        have hL := loopAt_len p h8 i k
        rw [h1] at d ⊢
        simp only [d, cond_false, c0, Option.bind_some, idx_nat hgk, htk, hcl, amb2_self]
        by_cases hneg : r.Coef.getD k 0 < 0
        · have d2 : decide (r.Coef.getD k 0 < 0) = true := by simpa using hneg
          have hwn : IntKind.i64.wrap (0 - r.Coef.getD k 0) = -(r.Coef.getD k 0) := by rw [i64 (by omega) (by omega)]; omega
          have c2 : ∀ (x : SBound), chk ((loopAt p i k).Highs.length + [x].length ≤ maxLen ∧ ((loopAt p i k).Highs.length + [x].length) * 40 ≤ 140737488355328) = some () := fun x => chk_pos (by simp only [List.length_singleton, maxLen]; omega)
          have hl0 : lowB k r = none := by unfold lowB; rw [if_neg (by omega)]
          have hh0 : highB k r = some ⟨⟨r.Coef.take k, r.Const⟩, -(r.Coef.getD k 0)⟩ := by unfold highB; rw [if_pos ⟨h1, hneg⟩]
          have hst := loopsAt_step p hr k fun k' hk' => ⟨by unfold lowB; rw [if_neg (by omega)], by unfold highB; rw [if_neg (by omega), if_neg (by omega)]⟩
          rw [hl0, hh0] at hst
          simp only [Option.toList_none, List.append_nil, Option.toList_some] at hst
          simp only [d2, cond_true, c1, Option.bind_some, Int.toNat_natCast, hg, c2, hwn, c5, c3 (k * 2 + 1 = k * 2 + 1) rfl, amb2_self]
          rw [hst]
        · have d2 : decide (r.Coef.getD k 0 < 0) = false := by simpa using hneg
          have hwc : IntKind.i64.wrap (0 - r.Const) = -r.Const := by rw [i64 (by omega) (by omega)]; omega
          have c2 : ∀ (x : SBound), chk ((loopAt p i k).Lows.length + [x].length ≤ maxLen ∧ ((loopAt p i k).Lows.length + [x].length) * 40 ≤ 140737488355328) = some () := fun x => chk_pos (by simp only [List.length_singleton, maxLen]; omega)
          have hmap := map_neg_loop fu (r.Coef.take k) r.Const (r.Coef.getD k 0) (by rw [List.length_take]; omega) (fun x hx => hcf x (List.mem_of_mem_take hx)) hf
          have hh0 : highB k r = none := by unfold highB; rw [if_neg (by omega), if_neg (by omega)]
          have hl0 : lowB k r = some ⟨⟨(r.Coef.take k).map fun y => -y, -r.Const⟩, r.Coef.getD k 0⟩ := by unfold lowB; rw [if_pos ⟨h1, by omega⟩]
          have hst := loopsAt_step p hr k fun k' hk' => ⟨by unfold lowB; rw [if_neg (by omega)], by unfold highB; rw [if_neg (by omega), if_neg (by omega)]⟩
          rw [hl0, hh0] at hst
          simp only [Option.toList_none, List.append_nil, Option.toList_some] at hst
          simp only [d2, cond_false, hmap, c1, Option.bind_some, Int.toNat_natCast, hg, c2, hwc, c5, c3 (k * 2 + 0 = k * 2 + 0) rfl, amb2_self]
          rw [hst])
    (by simp only [F.points_Loops_l3, dec_end, cond_false]) fu (by omega)
  exact this
theorem loops_ok (fu : Nat) {p : SPoints} (h : wrongP p = 0) (hf : 100 < fu) : F.points_Loops fu p = some (loopsAt p p.Rows.length, 0) := by
 have g := good_of h
 have h4 := g.len
 have c0 : chk ((0 : Int) ≤ (p.Box.length : Int) ∧ (p.Box.length : Int) ≤ (p.Box.length : Int) ∧ ((48 : Nat) : Int) * (p.Box.length : Int) ≤ 281474976710656 ∧ (p.Box.length : Int) ≤ 9223372036854775807) = some () := chk_pos (by omega)
 have b : ((0 : Int) != 0) = false := rfl
 have e : List.replicate (Int.toNat (p.Box.length : Int)) (⟨([] : List SBound), ([] : List SBound)⟩ : SLoop) = startAt p 0 := by unfold startAt; simp
 unfold F.points_Loops
 simp only [wrong_ok fu p (by omega), h, Option.bind_some, b, cond_false, c0, e, l1_ok fu g hf, l3_ok fu g hf]
end Go.DN
