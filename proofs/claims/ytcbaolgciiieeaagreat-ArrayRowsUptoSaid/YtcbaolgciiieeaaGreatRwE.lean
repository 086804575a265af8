/-
  Arrays: the plain law of rows: the reference's Do of Take.
-/
import Derived.Test.YtcbaolgciiieeaaGreatRwD
import Derived.Test.YtcbaolgciiieeaaGreatDoA
set_option linter.unusedSectionVars false
set_option linter.unusedSimpArgs false
set_option linter.unusedVariables false
set_option maxRecDepth 20000
namespace Go.DN.Pl
open Go.AM Go.PL
theorem wrongR_ok (fu : Nat) (a : SArray) (ha : a.Dims.length ≤ 4000000) (hf : 4000000 < fu) : F.adjointref2_Wrong fu a = some (wrongA a) := by
  unfold F.adjointref2_Wrong wrongA
  simp only [refSize_ok fu a.Dims ha hf, Option.bind_some]
  by_cases h : (sizeS a.Dims).2 = 0
  · rw [if_pos h, bne_false h, cond_false]
    by_cases h2 : (sizeS a.Dims).1 = (a.Data.length : Int)
    · rw [bne_false h2.symm, if_pos h2]; rfl
    · rw [bne_true (fun e => h2 e.symm), if_neg h2]; rfl
  · rw [if_neg h, bne_true h]; rfl
theorem okIx_pos {d a : List Int} (h : okIx d a) : hasB d 0 = false := by
 cases hb : hasB d 0 with
 | false => rfl
 | true =>
  obtain ⟨k, hk⟩ := List.mem_iff_getElem?.1 (hasB_mem.1 hb)
  have h1 := h.2 k (get_lt hk)
  rw [atI_get hk] at h1
  omega
theorem refDo_loop1 (fu : Nat) (a b : SArray) (ha : a.Dims.length ≤ 4000000) (hb : b.Dims.length ≤ 4000000) (hf : 4000000 < fu) :
    loopF (F.adjointref2_Do_l1 fu [a, b]) fu (0, [], [], []) = some (if wrongA a ≠ 0 then .ret (nilA, wrongA a) else if wrongA b ≠ 0 then .ret (nilA, wrongA b) else .brk ([], [], [a.Dims, b.Dims])) := by
  obtain ⟨f, rfl⟩ : ∃ f, fu = f + 3 := ⟨fu - 3, by omega⟩
  have wa := wrongR_ok (f + 3) a ha hf
  have wb := wrongR_ok (f + 3) b hb hf
  have c1 : chk (([] : List (List Int)).length + [a.Dims].length ≤ maxLen ∧ (([] : List (List Int)).length + [a.Dims].length) * 24 ≤ 140737488355328) = some () := chk_app (by simp) (by simp)
  have c2 : chk ([a.Dims].length + [b.Dims].length ≤ maxLen ∧ ([a.Dims].length + [b.Dims].length) * 24 ≤ 140737488355328) = some () := chk_app (by simp) (by simp)
  have s1 : F.adjointref2_Do_l1 (f + 3) [a, b] (0, [], [], []) = some (if wrongA a ≠ 0 then .inr (.ret (nilA, wrongA a)) else .inl (1, [], [], [a.Dims])) := by
    simp only [F.adjointref2_Do_l1, show decide ((0 : Int) < (([a, b] : List SArray).length : Int)) = true from rfl, cond_true, idx0, Option.bind_some, wa, c1]
    by_cases h : wrongA a = 0
    · rw [bne_false h, if_neg (by simpa using h)]; rfl
    · rw [bne_true h, if_pos h]; rfl
  have s2 : F.adjointref2_Do_l1 (f + 3) [a, b] (1, [], [], [a.Dims]) = some (if wrongA b ≠ 0 then .inr (.ret (nilA, wrongA b)) else .inl (2, [], [], [a.Dims, b.Dims])) := by
    simp only [F.adjointref2_Do_l1, show decide ((1 : Int) < (([a, b] : List SArray).length : Int)) = true from rfl, cond_true, idx1, Option.bind_some, wb, c2]
    by_cases h : wrongA b = 0
    · rw [bne_false h, if_neg (by simpa using h)]; rfl
    · rw [bne_true h, if_pos h]; rfl
  have s3 : F.adjointref2_Do_l1 (f + 3) [a, b] (2, [], [], [a.Dims, b.Dims]) = some (.inr (.brk ([], [], [a.Dims, b.Dims]))) := by
    simp only [F.adjointref2_Do_l1, show decide ((2 : Int) < (([a, b] : List SArray).length : Int)) = false from rfl, cond_false]
  have key : ∀ g, loopF (F.adjointref2_Do_l1 (f + 3) [a, b]) (g + 3) (0, [], [], []) = some (if wrongA a ≠ 0 then .ret (nilA, wrongA a) else if wrongA b ≠ 0 then .ret (nilA, wrongA b) else .brk ([], [], [a.Dims, b.Dims])) := fun g => by
    simp only [loopF, s1]
    by_cases h : wrongA a ≠ 0
    · simp only [if_pos h]
    · simp only [if_neg h, s2]
      by_cases h2 : wrongA b ≠ 0
      · simp only [if_pos h2]
      · simp only [if_neg h2, s3]
  exact key f
theorem refDo_take (fu : Nat) (a b : SArray) (ha : a.Dims.length ≤ 1048576) (hb : b.Dims.length ≤ 1048576) (hf : 4000000 < fu) :
    ∃ x e, F.adjointref2_Do fu takeOp [a, b] = some (x, e) ∧ (e = 0 → wrongA a = 0 ∧ wrongA b = 0 ∧ ∃ y r, a.Dims = y :: r ∧ (sizeS (b.Dims ++ r)).2 = 0) := by
  have hL := refDo_loop1 fu a b (by omega) (by omega) hf
  unfold F.adjointref2_Do
  simp only [show F.adjointref2_Right fu takeOp (([a, b] : List SArray).length : Int) = some 0 from right_ok fu takeOp 2, Option.bind_some, bne_false, cond_false, hL]
  by_cases h1 : wrongA a ≠ 0
  · rw [if_pos h1]; exact ⟨nilA, wrongA a, rfl, fun h => absurd h h1⟩
  · rw [if_neg h1]
    by_cases h2 : wrongA b ≠ 0
    · rw [if_pos h2]; exact ⟨nilA, wrongA b, rfl, fun h => absurd h h2⟩
    · rw [if_neg h2]
      have wa : wrongA a = 0 := Classical.byContradiction h1
      have wb : wrongA b = 0 := Classical.byContradiction h2
      obtain ⟨sa, la⟩ := wrongA_zero wa
      obtain ⟨sb, lb⟩ := wrongA_zero wb
      have hop : okOp takeOp := ⟨by simp [takeOp], by simp [takeOp], by simp [takeOp], by simp [takeOp], by simp [takeOp]⟩
      have hargs : okArgs [a.Dims, b.Dims] := ⟨by simp, fun x hx => by simp at hx; rcases hx with h | h <;> rw [h] <;> assumption⟩
      have hfw : firstW szE [a.Dims, b.Dims] = 0 := by
        rw [firstW_cons, firstW_cons]
        unfold szE
        rw [if_pos sa, if_pos sb]
        rfl
      have hfit : F.array_fits fu takeOp [a.Dims, b.Dims] = some 0 := by
        rw [fits_ok fu _ _ hargs hf]
        show some (if rightS 18 2 ≠ 0 then rightS 18 2 else firstW szE [a.Dims, b.Dims]) = some 0
        rw [show rightS 18 2 = 0 from rfl, hfw]
        rfl
      have hRS := k_take fu takeOp hop hf rfl a.Dims b.Dims [] (size_small sa).1 (size_small sb).1 hfit
      have d2 := dims2_of fu takeOp [a.Dims, b.Dims] hargs rfl hfw (takeS a.Dims b.Dims) hRS.2.1 hRS.2.2 hf
      obtain ⟨r, hr⟩ : ∃ r, r = finS (takeS a.Dims b.Dims) := ⟨_, rfl⟩
      rw [← hr] at d2
      obtain ⟨d, e⟩ := r
      simp only [bindE, d2, Option.bind_some]
      by_cases he : e = 0
      · subst he
        have hfs : takeS a.Dims b.Dims = (d, 0) ∧ (sizeS d).2 = 0 := by
          unfold finS at hr
          split at hr
          · rename_i h3; simp at hr; omega
          · rename_i h3
            split at hr
            · rename_i h4; simp at hr; omega
            · rename_i h4
              simp at hr h3 h4
              exact ⟨by rw [hr, ← h3], by rw [hr]; exact h4⟩
        obtain ⟨t1, t2⟩ := hfs
        cases hda : a.Dims with
        | nil => rw [hda] at t1; simp [takeS] at t1
        | cons y r' =>
          have hd : d = b.Dims ++ r' := by
            rw [hda] at t1
            unfold takeS at t1
            rw [if_neg (by simp; omega)] at t1
            simp at t1
            exact t1.symm
          subst hd
          obtain ⟨R, q1, q2, q3⟩ := all_ok fu (b.Dims ++ r') t2 hf
          have hent : ∀ (k : Nat) at_, R[k]? = some at_ → ∃ v, F.adjointref2_entry fu takeOp [a, b] at_ (k : Int) = some v := fun k at_ hk => by
            have h3 := q2 at_ (List.mem_of_getElem? hk)
            exact entry_take fu a b y r' at_ (k : Int) hda sa la sb lb (okIx_pos h3) h3 hf
          have hL2 := loop_acc (body := F.adjointref2_Do_l2 fu takeOp [a, b] R) R (fun k => ((k : Int), b.Dims ++ r', (List.range k).map fun (j : Nat) => ((F.adjointref2_entry fu takeOp [a, b] (R.getD j []) (j : Int)).getD 0))) (b.Dims ++ r', (List.range R.length).map fun (j : Nat) => ((F.adjointref2_entry fu takeOp [a, b] (R.getD j []) (j : Int)).getD 0)) (fun k at_ hk => by
            obtain ⟨v, hv⟩ := hent k at_ hk
            have hkl := get_lt hk
            have hc : chk (((List.range k).map fun (j : Nat) => ((F.adjointref2_entry fu takeOp [a, b] (R.getD j []) (j : Int)).getD 0)).length + [v].length ≤ maxLen ∧ (((List.range k).map fun (j : Nat) => ((F.adjointref2_entry fu takeOp [a, b] (R.getD j []) (j : Int)).getD 0)).length + [v].length) * 8 ≤ 140737488355328) = some () :=
              chk_app (by simp only [List.length_map, List.length_range, List.length_singleton]; omega) (by simp only [List.length_map, List.length_range, List.length_singleton]; omega)
            have hg : R.getD k [] = at_ := by rw [List.getD_eq_getElem?_getD, hk]; rfl
            simp only [F.adjointref2_Do_l2, dec_lt hk, cond_true, idx_nat hk, Option.bind_some, hv, hc, amb_self, amb2_self, wrap_succ hkl (show R.length ≤ 9223372036854775807 by omega)]
            rw [List.range_succ, List.map_append]
            simp only [List.map_cons, List.map_nil, hg, hv, Option.getD_some])
            (by simp only [F.adjointref2_Do_l2, dec_end, cond_false]) fu (by omega)
          have hL2' : loopF (F.adjointref2_Do_l2 fu takeOp [a, b] R) fu (0, b.Dims ++ r', []) = some (b.Dims ++ r', (List.range R.length).map fun (j : Nat) => ((F.adjointref2_entry fu takeOp [a, b] (R.getD j []) (j : Int)).getD 0)) := hL2
          refine ⟨⟨b.Dims ++ r', (List.range R.length).map fun (j : Nat) => ((F.adjointref2_entry fu takeOp [a, b] (R.getD j []) (j : Int)).getD 0)⟩, 0, ?_, fun _ => ⟨wa, wb, y, r', rfl, t2⟩⟩
          simp only [bne_false, cond_false, q1, Option.bind_some, hL2']
      · exact ⟨nilA, e, by simp only [bne_true he, cond_true]; rfl, fun h => absurd h he⟩
end Go.DN.Pl
