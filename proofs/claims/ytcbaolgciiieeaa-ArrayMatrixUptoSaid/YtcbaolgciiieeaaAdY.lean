/-
  Arrays: the plain law: views spread, turned, cut, flipped.
-/
import Derived.Test.YtcbaolgciiieeaaAdX
set_option linter.unusedSectionVars false
set_option linter.unusedSimpArgs false
set_option linter.unusedVariables false
namespace Go.DN.Pl
open Go.AM Go.PL
def spreadU (s at_ : List Int) (n : Nat) : Nat → List Int
 | 0 => List.replicate n 0
 | k + 1 => (spreadU s at_ n k).set (atI at_ k).toNat (atI s k)
theorem spreadU_len (s at_ : List Int) (n : Nat) : ∀ k, (spreadU s at_ n k).length = n
 | 0 => by simp [spreadU]
 | k + 1 => by rw [show spreadU s at_ n (k + 1) = (spreadU s at_ n k).set (atI at_ k).toNat (atI s k) from rfl, List.length_set, spreadU_len s at_ n k]
def badS (v : SView) (dims at_ : List Int) (k : Nat) : Bool := atI dims (atI at_ k).toNat != atI v.Dims k
def spreadS (v : SView) (dims at_ : List Int) : SView × Int :=
 if wrongS v ≠ 0 then (nilV, wrongS v) else if (sizeS dims).2 ≠ 0 then (nilV, (sizeS dims).2) else
 if ((at_.length : Int) != v.Dims.length || !(risB at_ dims.length)) then (nilV, 6) else
 if (List.range at_.length).any (badS v dims at_) then (nilV, 6) else (⟨v.Start, dims, spreadU v.Steps at_ dims.length at_.length⟩, 0)
theorem spread_ok (fu : Nat) (v : SView) (dims at_ : List Int) (hd : v.Dims.length ≤ 4000000) (hs : v.Steps.length ≤ 4000000) (hn : dims.length ≤ 4000000) (ha : at_.length ≤ 4000000) (hf : 4000000 < fu) : F.view_Spread fu v dims at_ = some (spreadS v dims at_) := by
  unfold F.view_Spread spreadS
  simp only [wrong_ok fu v hd hs hf, Option.bind_some]
  by_cases hw0 : wrongS v = 0
  · rw [if_neg (by omega), bne_false hw0, cond_false]
    obtain ⟨_, hsl, _⟩ := wrong_zero hw0
    simp only [size_ok fu dims hn hf, Option.bind_some]
    by_cases hz : (sizeS dims).2 = 0
    · rw [if_neg (by omega), bne_false hz, cond_false]
      simp only [risingV_ok fu at_ dims.length ha hf, Option.bind_some, cc]
      cases hc : ((at_.length : Int) != v.Dims.length || !(risB at_ dims.length)) with
      | true => rfl
      | false =>
        simp only [Bool.or_eq_false_iff, Bool.not_eq_false'] at hc
        obtain ⟨hl, hr⟩ := hc
        have hl : at_.length = v.Dims.length := by simp at hl; omega
        have hr := (risB_iff.1 hr).1
        simp only [cond_false, clone_ok fu dims (by omega), Option.bind_some, amb_self, amb2_self, amb3_self, amb4_self]
        rw [chk_pos (by omega)]
        simp only [Option.bind_some, amb_self, amb2_self, amb3_self, amb4_self, Int.toNat_natCast]
        have h := loop_at (body := F.view_Spread_l1 fu v dims at_) at_.length (fun k => ((k : Int), 0, [], [], spreadU v.Steps at_ dims.length k, v.Start)) (fun k => if badS v dims at_ k then some (Ex.ret (nilV, 6)) else none) (Ex.brk (0, [], [], spreadU v.Steps at_ dims.length at_.length, v.Start))
          (fun k hk _ => by
            have hx := get_atI hk
            have hw := wrap_succ hk (by omega)
            have i1 := get_atI (l := v.Dims) (show k < v.Dims.length by omega)
            have i2 := get_atI (l := v.Steps) (show k < v.Steps.length by omega)
            have hrk := hr k hk
            have i3 := idx_in (d := spreadU v.Steps at_ dims.length k) (x := atI at_ k) (by rw [spreadU_len]; exact hrk)
            simp only [F.view_Spread_l1, dec_lt hx, cond_true, idx_nat hx, idx_in hrk, idx_nat i1, idx_nat i2, i3, Option.bind_some, hw]
            unfold badS
            cases atI dims (atI at_ k).toNat != atI v.Dims k <;> rfl)
          (fun _ => by simp only [F.view_Spread_l1, dec_end, cond_false]) fu (by omega)
        rw [show ((0 : Nat) : Int) = 0 from rfl, show spreadU v.Steps at_ dims.length 0 = List.replicate dims.length 0 from rfl] at h
        rw [h, findCst]
        cases (List.range at_.length).any (badS v dims at_) <;> rfl
    · rw [if_pos hz, bne_true hz, cond_true]; rfl
  · rw [if_pos hw0, bne_true hw0, cond_true]; rfl
theorem spread1_ok (fu : Nat) (v : SView) (dims at_ : List Int) (hd : v.Dims.length ≤ 4000000) (hs : v.Steps.length ≤ 4000000) (hn : dims.length ≤ 4000000) (ha : at_.length ≤ 4000000) (hf : 4000000 < fu) : F.adjointref1_Spread fu v dims at_ = some (spreadS v dims at_) := by
  unfold F.adjointref1_Spread spreadS
  simp only [wrong1_ok fu v hd hs hf, Option.bind_some]
  by_cases hw0 : wrongS v = 0
  · rw [if_neg (by omega), bne_false hw0, cond_false]
    obtain ⟨_, hsl, _⟩ := wrong_zero hw0
    simp only [refSize_ok fu dims hn hf, Option.bind_some]
    by_cases hz : (sizeS dims).2 = 0
    · rw [if_neg (by omega), bne_false hz, cond_false]
      simp only [rising1_ok fu at_ dims.length ha hf, Option.bind_some, cc]
      cases hc : ((at_.length : Int) != v.Dims.length || !(risB at_ dims.length)) with
      | true => rfl
      | false =>
        simp only [Bool.or_eq_false_iff, Bool.not_eq_false'] at hc
        obtain ⟨hl, hr⟩ := hc
        have hl : at_.length = v.Dims.length := by simp at hl; omega
        have hr := (risB_iff.1 hr).1
        simp only [cond_false, Option.bind_some, amb_self, amb2_self, amb3_self, amb4_self]
        rw [chk_pos (by omega)]
        simp only [Option.bind_some, amb_self, amb2_self, amb3_self, amb4_self, Int.toNat_natCast]
        have h := loop_at (body := F.adjointref1_Spread_l1 fu v dims at_) at_.length (fun k => ((k : Int), 0, [], [], spreadU v.Steps at_ dims.length k, v.Start, dims)) (fun k => if badS v dims at_ k then some (Ex.ret (nilV, 6)) else none) (Ex.brk (0, [], [], spreadU v.Steps at_ dims.length at_.length, v.Start, dims))
          (fun k hk _ => by
            have hx := get_atI hk
            have hw := wrap_succ hk (by omega)
            have i1 := get_atI (l := v.Dims) (show k < v.Dims.length by omega)
            have i2 := get_atI (l := v.Steps) (show k < v.Steps.length by omega)
            have hrk := hr k hk
            have i3 := idx_in (d := spreadU v.Steps at_ dims.length k) (x := atI at_ k) (by rw [spreadU_len]; exact hrk)
            simp only [F.adjointref1_Spread_l1, dec_lt hx, cond_true, idx_nat hx, idx_in hrk, idx_nat i1, idx_nat i2, i3, Option.bind_some, hw]
            unfold badS
            cases atI dims (atI at_ k).toNat != atI v.Dims k <;> rfl)
          (fun _ => by simp only [F.adjointref1_Spread_l1, dec_end, cond_false]) fu (by omega)
        rw [show ((0 : Nat) : Int) = 0 from rfl, show spreadU v.Steps at_ dims.length 0 = List.replicate dims.length 0 from rfl] at h
        rw [h, findCst]
        cases (List.range at_.length).any (badS v dims at_) <;> rfl
    · rw [if_pos hz, bne_true hz, cond_true]; rfl
  · rw [if_pos hw0, bne_true hw0, cond_true]; rfl
theorem nodup_len {α : Type} [DecidableEq α] : ∀ (l m : List α), l.Nodup → (∀ x ∈ l, x ∈ m) → l.length ≤ m.length
 | [], m, _, _ => Nat.zero_le _
 | x :: r, m, hn, h => by
  have hx := h x List.mem_cons_self
  have hn' := List.nodup_cons.1 hn
  have := nodup_len r (m.erase x) hn'.2 fun y hy => (List.mem_erase_of_ne (fun e => hn'.1 (by rw [← e]; exact hy))).2 (h y (List.mem_cons_of_mem _ hy))
  rw [List.length_erase_of_mem hx] at this
  have h0 : 0 < m.length := List.length_pos_of_mem hx
  rw [List.length_cons]; omega
theorem nodup_all {α : Type} [DecidableEq α] (l m : List α) (hn : l.Nodup) (h : ∀ x ∈ l, x ∈ m) (hl : m.length ≤ l.length) : ∀ x ∈ m, x ∈ l := by
 intro x hx
 apply Classical.byContradiction
 intro hxl
 have := nodup_len (x :: l) m (List.nodup_cons.2 ⟨hxl, hn⟩) fun y hy => by
  rcases List.mem_cons.1 hy with e | hy
  · rw [e]; exact hx
  · exact h y hy
 rw [List.length_cons] at this; omega
theorem all_nodup {α : Type} [DecidableEq α] : ∀ (l m : List α), m.Nodup → (∀ x ∈ m, x ∈ l) → l.length ≤ m.length → l.Nodup ∧ ∀ x ∈ l, x ∈ m
  | [], m, _, h, _ => ⟨List.nodup_nil, fun x hx => by cases hx⟩
  | x :: r, m, hm, h, hl => by
    rw [List.length_cons] at hl
    by_cases hx : x ∈ m
    · have he : (m.erase x).Nodup := hm.erase x
      have h0 : 0 < m.length := List.length_pos_of_mem hx
      have := all_nodup r (m.erase x) he (fun y hy => by
        have hy' := (List.Nodup.mem_erase_iff hm).1 hy
        rcases List.mem_cons.1 (h y hy'.2) with e | h2
        · exact absurd e hy'.1
        · exact h2) (by rw [List.length_erase_of_mem hx]; omega)
      refine ⟨List.nodup_cons.2 ⟨fun hr => ?_, this.1⟩, fun y hy => ?_⟩
      · have := (List.Nodup.mem_erase_iff hm).1 (this.2 x hr)
        exact this.1 rfl
      · rcases List.mem_cons.1 hy with e | hy
        · rw [e]; exact hx
        · exact List.mem_of_mem_erase (this.2 y hy)
    · have := nodup_len m r hm fun y hy => by
        rcases List.mem_cons.1 (h y hy) with e | h2
        · exact absurd (e ▸ hy) hx
        · exact h2
      omega
def rangeI (n : Nat) : List Int := (List.range n).map fun (i : Nat) => (i : Int)
theorem rangeI_mem {n : Nat} {x : Int} : x ∈ rangeI n ↔ 0 ≤ x ∧ x < (n : Int) := by
 unfold rangeI
 rw [List.mem_map]
 constructor
 · rintro ⟨i, hi, rfl⟩; have := List.mem_range.1 hi; omega
 · rintro ⟨h0, h1⟩; exact ⟨x.toNat, List.mem_range.2 (by omega), by omega⟩
theorem rangeI_nodup (n : Nat) : (rangeI n).Nodup := by
 unfold rangeI
 rw [List.nodup_iff_pairwise_ne, List.pairwise_map]
 exact (List.nodup_iff_pairwise_ne.1 List.nodup_range).imp fun {a b} h e => h (by omega)
theorem rangeI_len (n : Nat) : (rangeI n).length = n := by unfold rangeI; simp
theorem perm_same (p : List Int) (n : Nat) (hl : p.length = n) : onceB p n = true ↔ ∀ k, k < n → hasB p (k : Int) = true := by
  rw [onceB_iff]
  constructor
  · rintro ⟨h1, h2⟩ k hk
    exact hasB_mem.2 (nodup_all p (rangeI n) h2 (fun x hx => rangeI_mem.2 (h1 x hx)) (by rw [rangeI_len]; omega) _ (rangeI_mem.2 ⟨by omega, by omega⟩))
  · intro h
    have := all_nodup p (rangeI n) (rangeI_nodup n) (fun x hx => by
      obtain ⟨h0, h1⟩ := rangeI_mem.1 hx
      have := hasB_mem.1 (h x.toNat (by omega))
      rwa [Int.toNat_of_nonneg h0] at this) (by rw [rangeI_len]; omega)
    exact ⟨fun x hx => rangeI_mem.1 (this.2 x hx), this.1⟩
def turnS (v : SView) (p : List Int) : SView × Int :=
 if wrongS v ≠ 0 then (nilV, wrongS v) else if (p.length = v.Dims.length ∧ onceB p v.Dims.length = true) then (⟨v.Start, chosenL v.Dims p, chosenL v.Steps p⟩, 0) else (nilV, 6)
theorem turn_ok (fu : Nat) (v : SView) (p : List Int) (hd : v.Dims.length ≤ 4000000) (hs : v.Steps.length ≤ 4000000) (hp : p.length ≤ 4000000) (hf : 4000000 < fu) : F.view_Turn fu v p = some (turnS v p) := by
  unfold F.view_Turn turnS
  simp only [wrong_ok fu v hd hs hf, Option.bind_some]
  by_cases hw0 : wrongS v = 0
  · rw [if_neg (by omega), bne_false hw0, cond_false]
    obtain ⟨_, hsl, _⟩ := wrong_zero hw0
    have h := loop_at (body := F.view_Turn_l1 fu v p) p.length (fun k => ((k : Int), 0, [], [], seenL v.Dims.length (p.take k), v.Start, (chosenL v.Dims p).take k, (chosenL v.Steps p).take k)) (fun k => if badO p v.Dims.length k then some (Ex.ret (nilV, 6)) else none) (Ex.brk (0, [], [], seenL v.Dims.length p, v.Start, chosenL v.Dims p, chosenL v.Steps p))
      (fun k hk _ => by
        have hx := get_atI hk
        have hw := wrap_succ hk (by omega)
        have hsn : (seenL v.Dims.length (p.take k)).length = v.Dims.length := by unfold seenL; simp
        simp only [F.view_Turn_l1, dec_lt hx, cond_true, idx_nat hx, Option.bind_some, hw, hsn]
        unfold badO
        by_cases h1 : atI p k < 0
        · simp only [dec_true h1, cond_true, Option.bind_some, Bool.true_or, if_true]; rfl
        · by_cases h2 : atI p k ≥ (v.Dims.length : Int)
          · simp only [dec_false h1, dec_true h2, cond_false, cond_true, Option.bind_some, Bool.true_or, Bool.or_true, if_true]; rfl
          · obtain ⟨q, hq⟩ : ∃ q : Nat, atI p k = q := ⟨(atI p k).toNat, by omega⟩
            rw [hq] at h1 h2 hx
            have hsq := seenL_get (p := p.take k) (show q < v.Dims.length by omega)
            have c1 := chosenL_get (d := v.Dims) hx
            have c2 := chosenL_get (d := v.Steps) hx
            have l1 := lenT c1
            have l2 := lenT c2
            have j1 := get_atI (l := v.Dims) (show q < v.Dims.length by omega)
            have j2 := get_atI (l := v.Steps) (show q < v.Steps.length by omega)
            rw [Int.toNat_natCast] at c1 c2
            simp only [hq, dec_false h1, dec_false h2, cond_false, Bool.false_or, idx_nat hsq, idx_nat j1, idx_nat j2, Option.bind_some]
            cases hh : hasB (p.take k) (q : Int) with
            | true => rfl
            | false =>
              have e : (seenL v.Dims.length (p.take k)).set (q : Int).toNat true = seenL v.Dims.length (p.take (k + 1)) := by
                rw [seenL_set (by omega) (by omega), take_succ hx]
              rw [chk_app (by simp only [List.length_singleton]; omega) (by simp only [List.length_singleton]; omega), chk_app (by simp only [List.length_singleton]; omega) (by simp only [List.length_singleton]; omega)]
              simp only [cond_false, e, Bool.false_eq_true, if_false, Option.bind_some, amb_self, amb2_self, amb3_self, amb4_self, take_succ c1, take_succ c2])
      (fun _ => by
        have e1 : (chosenL v.Dims p).take p.length = chosenL v.Dims p := takeC
        have e2 : (chosenL v.Steps p).take p.length = chosenL v.Steps p := takeC
        simp only [F.view_Turn_l1, dec_end, cond_false, List.take_length, e1, e2]) fu (by omega)
    rw [List.take_zero, seenL_nil, List.take_zero, List.take_zero, show ((0 : Nat) : Int) = 0 from rfl] at h
    rw [chk_pos (by omega)]
    simp only [Option.bind_some, Int.toNat_natCast]
    rw [h, findCst]
    have ho : onceB p v.Dims.length = !((List.range p.length).any (badO p v.Dims.length)) := rfl
    cases hb : (List.range p.length).any (badO p v.Dims.length) with
    | true =>
      rw [hb] at ho
      rw [if_neg (show ¬ (p.length = v.Dims.length ∧ onceB p v.Dims.length = true) from fun h => by rw [ho] at h; cases h.2)]
      rfl
    | false =>
      rw [hb] at ho
      have hsn : (seenL v.Dims.length p).length = v.Dims.length := by unfold seenL; simp
      simp only [Bool.false_eq_true, if_false, bindE, hsn]
      by_cases hpl : p.length = v.Dims.length
      · rw [if_pos ⟨hpl, by rw [ho]; rfl⟩, bne_false (by omega), cond_false]
      · rw [if_neg (fun h => hpl h.1), bne_true (by omega), cond_true]; rfl
  · rw [if_pos hw0, bne_true hw0, cond_true]; rfl
theorem turn1_ok (fu : Nat) (v : SView) (p : List Int) (hd : v.Dims.length ≤ 4000000) (hs : v.Steps.length ≤ 4000000) (hp : p.length ≤ 4000000) (hf : 4000000 < fu) : F.adjointref1_Turn fu v p = some (turnS v p) := by
  unfold F.adjointref1_Turn turnS
  simp only [wrong1_ok fu v hd hs hf, Option.bind_some]
  by_cases hw0 : wrongS v = 0
  · rw [if_neg (by omega), bne_false hw0, cond_false]
    obtain ⟨_, hsl, _⟩ := wrong_zero hw0
    by_cases hpl : p.length = v.Dims.length
    · rw [bne_false (by omega), cond_false]
      have h := loop_at (body := F.adjointref1_Turn_l1 fu v p) v.Dims.length (fun k => ((k : Int), 0, [], [])) (fun k => if !(hasB p (k : Int)) then some (Ex.ret (nilV, 6)) else none) (Ex.brk (0, [], []))
        (fun k hk _ => by
          have hx := get_atI hk
          have hw := wrap_succ hk (by omega)
          simp only [F.adjointref1_Turn_l1, dec_lt hx, cond_true, has1_ok fu p _ hp hf, Option.bind_some, hw]
          cases hasB p (k : Int) <;> rfl)
        (fun _ => by simp only [F.adjointref1_Turn_l1, dec_end, cond_false]) fu (by omega)
      rw [show ((0 : Nat) : Int) = 0 from rfl] at h
      rw [h, findCst]
      cases hb : (List.range v.Dims.length).any fun (k : Nat) => !(hasB p (k : Int)) with
      | true =>
        have hno : ¬ (p.length = v.Dims.length ∧ onceB p v.Dims.length = true) := by
          rintro ⟨_, ho⟩
          have := (perm_same p _ hpl).1 ho
          obtain ⟨k, hk, hk2⟩ := List.any_eq_true.1 hb
          rw [this k (List.mem_range.1 hk)] at hk2
          cases hk2
        rw [if_neg hno]
        rfl
      | false =>
        have ho : onceB p v.Dims.length = true := (perm_same p _ hpl).2 fun k hk => by
          have := any_range.1 hb k hk
          simpa using this
        have hr := once_mem ho
        rw [if_pos (show (p.length = v.Dims.length ∧ onceB p v.Dims.length = true) from ⟨hpl, ho⟩)]
        simp only [Bool.false_eq_true, if_false, bindE]
        have h2 := loop_acc (body := F.adjointref1_Turn_l2 fu v p) p (fun k => ((k : Int), v.Start, (chosenL v.Dims p).take k, (chosenL v.Steps p).take k)) (v.Start, chosenL v.Dims p, chosenL v.Steps p)
          (fun k x hx => by
            have hw := wrap_succ (get_lt hx) (by omega)
            have hrx := hr x (List.mem_of_getElem? hx)
            have c1 := chosenL_get (d := v.Dims) hx
            have c2 := chosenL_get (d := v.Steps) hx
            have l1 := lenT c1
            have l2 := lenT c2
            have := get_lt hx
            simp only [F.adjointref1_Turn_l2, dec_lt hx, cond_true, idx_nat hx, Option.bind_some, hw, idx_in hrx, idx_in (d := v.Steps) (show 0 ≤ x ∧ x < (v.Steps.length : Int) by omega)]
            rw [chk_app (by simp only [List.length_singleton]; omega) (by simp only [List.length_singleton]; omega), chk_app (by simp only [List.length_singleton]; omega) (by simp only [List.length_singleton]; omega)]
            simp only [Option.bind_some, amb_self, amb2_self, amb3_self, amb4_self, take_succ c1, take_succ c2])
          (by
            have e1 : (chosenL v.Dims p).take p.length = chosenL v.Dims p := takeC
            have e2 : (chosenL v.Steps p).take p.length = chosenL v.Steps p := takeC
            simp only [F.adjointref1_Turn_l2, dec_end, cond_false, e1, e2]) fu (by omega)
        rw [List.take_zero, List.take_zero, show ((0 : Nat) : Int) = 0 from rfl] at h2
        simp only [h2, Option.bind_some]
    · rw [bne_true (by omega), cond_true, if_neg (fun h => hpl h.1)]; rfl
  · rw [if_pos hw0, bne_true hw0, cond_true]; rfl
end Go.DN.Pl
