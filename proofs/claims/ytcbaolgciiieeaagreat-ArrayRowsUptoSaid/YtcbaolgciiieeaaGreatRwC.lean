/-
  Arrays: the plain law of rows: the reference finds an entry at each index.
-/
import Derived.Test.YtcbaolgciiieeaaGreatRwB
set_option linter.unusedSectionVars false
set_option linter.unusedSimpArgs false
set_option linter.unusedVariables false
set_option maxRecDepth 20000
namespace Go.DN.Pl
open Go.AM Go.PL
theorem drop_at {d : List Int} {k : Nat} (h : k < d.length) : d.drop k = atI d k :: d.drop (k + 1) := by
 rw [List.drop_eq_getElem_cons h]
 congr 1
 exact Option.some.inj ((List.getElem?_eq_getElem h).symm.trans (get_atI h))
def liesU (s a : List Int) : Nat → Int
 | 0 => 0
 | k + 1 => liesU s a k + atI a k * atI s k
theorem lies_ran {d a : List Int} (hd : ∀ x ∈ d, 1 ≤ x) (ha : okIx d a) : ∀ {k : Nat}, k ≤ d.length → 0 ≤ liesU (stepsR d) a k ∧ liesU (stepsR d) a k + prodR (d.drop k) ≤ prodR d
 | 0, _ => by simp [liesU]
 | k + 1, h => by
  obtain ⟨i1, i2⟩ := lies_ran hd ha (show k ≤ d.length by omega)
  obtain ⟨a0, a1⟩ := ha.2 k (by omega)
  have hp := prodR_pos (d.drop (k + 1)) fun x hx => hd x (List.mem_of_mem_drop hx)
  have e := stepsR_get d k (by omega)
  rw [drop_at (show k < d.length by omega), prodR] at i2
  simp only [liesU, e]
  have h1 : 0 ≤ atI a k * prodR (d.drop (k + 1)) := Int.mul_nonneg a0 (by omega)
  have h2 : (atI a k + 1) * prodR (d.drop (k + 1)) ≤ atI d k * prodR (d.drop (k + 1)) := Int.mul_le_mul_of_nonneg_right (by omega) (by omega)
  rw [Int.add_mul, Int.one_mul] at h2
  have h3 : prodR (d.drop (k + 1)) * atI d k = atI d k * prodR (d.drop (k + 1)) := Int.mul_comm _ _
  omega
theorem place_ok (fu : Nat) (d a : List Int) (hs : (sizeS d).2 = 0) (h0 : hasB d 0 = false) (ha : okIx d a) (hf : 4000000 < fu) : ∃ p, F.adjointref1_Place fu d a = some (p, 0) ∧ 0 ≤ p ∧ p < (sizeS d).1 := by
 obtain ⟨h6, hg, hp, _⟩ := size_zero hs
 obtain ⟨p1, p2, p3⟩ := hp h0
 have hal := ha.1
 have hst : stepsS d = stepsR d := by unfold stepsS; rw [h0]; rfl
 have hL := loop_find (body := F.adjointref1_Place_l1 fu d a) d (fun k => (k : Int)) (fun _ => none) (fun k x hx => by
  have hk := get_lt hx
  obtain ⟨a0, a1⟩ := ha.2 k hk
  have hax := get_atI (l := a) (show k < a.length by omega)
  have hxe : x = atI d k := Option.some.inj (hx.symm.trans (get_atI hk))
  simp only [F.adjointref1_Place_l1, dec_lt hx, cond_true, idx_nat hx, Option.bind_some, idx_nat hax, dec_false (show ¬ (atI a k < 0) by omega), cond_false, dec_false (show ¬ (atI a k ≥ x) by omega), wrap_succ hk (show d.length ≤ 9223372036854775807 by omega)])
  (by simp only [F.adjointref1_Place_l1, dec_end, cond_false]) fu (by omega)
 rw [show ((0 : Nat) : Int) = 0 from rfl] at hL
 have hn : d.findSome? (fun _ => (none : Option (Int × Int))) = none := List.findSome?_eq_none_iff.2 fun _ _ => rfl
 rw [hn] at hL
 have hP := loop_acc (body := F.adjointref1_Lies_l1 fu ⟨0, d, stepsR d⟩ a) a (fun k => (liesU (stepsR d) a k, (k : Int))) (liesU (stepsR d) a a.length) (fun k x hx => by
  have hk := get_lt hx
  have hxe : x = atI a k := Option.some.inj (hx.symm.trans (get_atI hk))
  have hsx := get_atI (l := stepsR d) (show k < (stepsR d).length by rw [stepsR_len]; omega)
  obtain ⟨l1, l2⟩ := lies_ran p1 ha (show k ≤ d.length by omega)
  obtain ⟨m1, m2⟩ := lies_ran p1 ha (show k + 1 ≤ d.length by omega)
  have q1 := prodR_pos (d.drop k) fun x hx => p1 x (List.mem_of_mem_drop hx)
  have q2 := prodR_pos (d.drop (k + 1)) fun x hx => p1 x (List.mem_of_mem_drop hx)
  subst hxe
  have e : liesU (stepsR d) a (k + 1) = liesU (stepsR d) a k + atI a k * atI (stepsR d) k := rfl
  rw [e] at m1 m2
  simp only [F.adjointref1_Lies_l1, dec_lt hx, cond_true, idx_nat hx, Option.bind_some, idx_nat hsx, e, wrap_succ hk (show a.length ≤ 9223372036854775807 by omega)]
  rw [i64 (n := atI a k * atI (stepsR d) k) (by omega) (by omega), i64 (by omega) (by omega)])
  (by simp only [F.adjointref1_Lies_l1, dec_end, cond_false]) fu (by omega)
 have hP' : loopF (F.adjointref1_Lies_l1 fu ⟨0, d, stepsR d⟩ a) fu (0, 0) = some (liesU (stepsR d) a a.length) := hP
 obtain ⟨l1, l2⟩ := lies_ran p1 ha (Nat.le_refl d.length)
 rw [List.drop_length, show prodR [] = 1 from rfl] at l2
 refine ⟨liesU (stepsR d) a a.length, ?_, by rw [hal]; exact l1, by rw [hal, p3]; omega⟩
 unfold F.adjointref1_Place F.adjointref1_Lies
 simp only [refSize_ok fu d (by omega) hf, Option.bind_some, bne_false hs, cond_false, bne_false (show (a.length : Int) = (d.length : Int) by omega), hL, bindE, refSteps_ok fu d hs hf, hst, hP']
theorem get_ok (fu : Nat) (x : SArray) (a : List Int) (hs : (sizeS x.Dims).2 = 0) (hl : (sizeS x.Dims).1 = (x.Data.length : Int)) (h0 : hasB x.Dims 0 = false) (ha : okIx x.Dims a) (hf : 4000000 < fu) : ∃ v, F.adjointref2_Get fu x a = some v := by
 obtain ⟨p, h1, h2, h3⟩ := place_ok fu x.Dims a hs h0 ha hf
 unfold F.adjointref2_Get
 rw [h1]
 rw [hl] at h3
 have := idx_nat (get_atI (l := x.Data) (show p.toNat < x.Data.length by omega))
 rw [Int.toNat_of_nonneg h2] at this
 exact ⟨atI x.Data p.toNat, by simp only [Option.bind_some, this]⟩
end Go.DN.Pl
