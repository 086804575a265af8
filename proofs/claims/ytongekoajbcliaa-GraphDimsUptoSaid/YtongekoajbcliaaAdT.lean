/-
  Arrays: the plain law: places that are free, padded, joined.
-/
import Derived.Test.YtongekoajbcliaaAdR
set_option linter.unusedSectionVars false
set_option linter.unusedSimpArgs false
set_option linter.unusedVariables false
namespace Go.DN.Pl
open Go.AM Go.PL
theorem loop_count {τ ρ : Type} {body : τ → Option (τ ⊕ ρ)} (m : Nat) (st : Nat → τ) (e : ρ)
  (hbody : ∀ k, k < m → body (st k) = some (.inl (st (k + 1)))) (hend : body (st m) = some (.inr e)) (n : Nat) (hn : m < n) :
  loopF body n (st 0) = some e := by
 have h := loop_at (body := body) m st (fun _ => (none : Option ρ)) e (fun k hk _ => hbody k hk) (fun _ => hend) n hn
 rw [h, show (List.range m).findSome? (fun _ => (none : Option ρ)) = none from List.findSome?_eq_none_iff.2 fun _ _ => rfl]
def freeU (ins : List Int) : Nat → List Int
 | 0 => []
 | k + 1 => if hasB ins k then freeU ins k else freeU ins k ++ [(k : Int)]
def keepU (d ins : List Int) (k : Nat) : List Int := (freeU ins k).map fun i => atI d i.toNat
theorem freeU_len (ins : List Int) : ∀ k, (freeU ins k).length ≤ k
 | 0 => by simp [freeU]
 | k + 1 => by have := freeU_len ins k; unfold freeU; split <;> simp <;> omega
theorem freeU_ran (ins : List Int) : ∀ k, ∀ x ∈ freeU ins k, 0 ≤ x ∧ x < (k : Int)
  | 0 => by simp [freeU]
  | k + 1 => by
    intro x hx
    have := freeU_ran ins k
    unfold freeU at hx
    split at hx
    · have := this x hx; omega
    · rcases List.mem_append.1 hx with h | h
      · have := this x h; omega
      · simp at h; omega
theorem keepU_succ (d ins : List Int) (k : Nat) : keepU d ins (k + 1) = if hasB ins k then keepU d ins k else keepU d ins k ++ [atI d k] := by
 unfold keepU
 rw [show freeU ins (k + 1) = if hasB ins k then freeU ins k else freeU ins k ++ [(k : Int)] from rfl]
 split
 · rfl
 · rw [List.map_append]; simp
theorem keepU_len (d ins : List Int) (k : Nat) : (keepU d ins k).length ≤ k := by unfold keepU; rw [List.length_map]; exact freeU_len ins k
theorem hasB_app (a b : List Int) (n : Int) : hasB (a ++ b) n = (hasB a n || hasB b n) := by unfold hasB; rw [List.any_append]
theorem freeU_comm (a b : List Int) : ∀ k, freeU (a ++ b) k = freeU (b ++ a) k
 | 0 => rfl
 | k + 1 => by
  have e : hasB (a ++ b) (k : Int) = hasB (b ++ a) (k : Int) := by rw [hasB_app, hasB_app, Bool.or_comm]
  unfold freeU
  rw [freeU_comm a b k, e]
theorem keepU_comm (d a b : List Int) (k : Nat) : keepU d (a ++ b) k = keepU d (b ++ a) k := by unfold keepU; rw [freeU_comm]
theorem free_ok (fu : Nat) (d ins : List Int) (hd : d.length ≤ 4000000) (hi : ins.length ≤ 4000000) (hf : 4000000 < fu) : F.adjointref2_Free fu d ins = some (freeU ins d.length) := by
 unfold F.adjointref2_Free
 have h := loop_count (body := F.adjointref2_Free_l1 fu d ins) d.length (fun k => ((k : Int), freeU ins k)) (freeU ins d.length)
  (fun k hk => by
   have hx := get_atI hk
   have hw := wrap_succ hk (by omega)
   have hl := freeU_len ins k
   simp only [F.adjointref2_Free_l1, dec_lt hx, cond_true, has2_ok fu ins _ hi hf, Option.bind_some, hw]
   rw [show freeU ins (k + 1) = if hasB ins k then freeU ins k else freeU ins k ++ [(k : Int)] from rfl]
   cases hasB ins (k : Int) with
   | true => rfl
   | false =>
    simp only [Bool.not_false, cond_true, Bool.false_eq_true, if_false]
    rw [chk_app (by simp only [List.length_singleton]; omega) (by simp only [List.length_singleton]; omega)]
    rfl)
  (by simp only [F.adjointref2_Free_l1, dec_end, cond_false]) fu (by omega)
 rw [show freeU ins 0 = [] from rfl, show ((0 : Nat) : Int) = 0 from rfl] at h
 simp only [h, Option.bind_some]
def chosenL (d at_ : List Int) : List Int := at_.map fun i => atI d i.toNat
theorem chosenL_len (d at_ : List Int) : (chosenL d at_).length = at_.length := by unfold chosenL; rw [List.length_map]
theorem chosen_ok (fu : Nat) (d at_ : List Int) (ha : at_.length ≤ 4000000) (hr : ∀ x ∈ at_, 0 ≤ x ∧ x < (d.length : Int)) (hf : 4000000 < fu) : F.adjointref2_chosen fu d at_ = some (chosenL d at_) := by
 unfold F.adjointref2_chosen
 have h := loop_acc (body := F.adjointref2_chosen_l1 fu d at_) at_ (fun k => ((k : Int), (chosenL d at_).take k)) (chosenL d at_)
  (fun k x hx => by
   have hw := wrap_succ (get_lt hx) (by omega)
   have hr := hr x (List.mem_of_getElem? hx)
   obtain ⟨q, hq⟩ : ∃ q : Nat, x = q := ⟨x.toNat, by omega⟩
   have hy := get_atI (l := d) (show q < d.length by omega)
   have hc : (chosenL d at_)[k]? = some (atI d q) := by unfold chosenL; rw [List.getElem?_map, hx]; simp [hq]
   have hl := lenT hc
   have := get_lt hx
   simp only [F.adjointref2_chosen_l1, dec_lt hx, cond_true, idx_nat hx, Option.bind_some, hw]
   rw [hq, idx_nat hy]
   simp only [Option.bind_some]
   rw [chk_app (by simp only [List.length_singleton]; omega) (by simp only [List.length_singleton]; omega), take_succ hc]
   rfl)
  (by
   have : (chosenL d at_).take at_.length = chosenL d at_ := by rw [← chosenL_len d at_]; exact List.take_length
   simp only [F.adjointref2_chosen_l1, dec_end, cond_false, this]) fu (by omega)
 rw [List.take_zero, show ((0 : Nat) : Int) = 0 from rfl] at h
 simp only [h, Option.bind_some]
theorem chosen_free (fu : Nat) (d ins : List Int) (hd : d.length ≤ 4000000) (hf : 4000000 < fu) : F.adjointref2_chosen fu d (freeU ins d.length) = some (keepU d ins d.length) :=
 chosen_ok fu d _ (by have := freeU_len ins d.length; omega) (freeU_ran ins d.length) hf
theorem both_ok (fu : Nat) (a b : List Int) (ha : a.length ≤ 4000000) (hb : b.length ≤ 4000000) : F.adjointref2_both fu a b = some (a ++ b) := by
 unfold F.adjointref2_both
 rw [chk_app (by simp only [List.length_nil]; omega) (by simp only [List.length_nil]; omega)]
 simp only [Option.bind_some, List.nil_append]
 rw [chk_app (by omega) (by omega)]
 rfl
theorem summed_ok (fu : Nat) (at_ d : List Int) (hd : d.length ≤ 4000000) (hi : at_.length ≤ 4000000) (hf : 4000000 < fu) :
  F.array_summed fu at_ d = some (if risB at_ d.length then (keepU d at_ d.length, 0) else ([], 6)) := by
 unfold F.array_summed
 rw [risingA_ok fu at_ d.length hi hd hf]
 simp only [Option.bind_some]
 cases risB at_ d.length with
 | false => rfl
 | true =>
  have h := loop_count (body := F.array_summed_l1 fu at_ d) d.length (fun k => ((k : Int), keepU d at_ k)) (keepU d at_ d.length)
   (fun k hk => by
    have hx := get_atI hk
    have hw := wrap_succ hk (by omega)
    have hl := keepU_len d at_ k
    simp only [F.array_summed_l1, dec_lt hx, cond_true, idx_nat hx, contains_ok fu at_ _ hi hf, Option.bind_some, hw]
    rw [keepU_succ]
    cases hasB at_ (k : Int) with
    | true => rfl
    | false =>
     simp only [Bool.not_false, cond_true, Bool.false_eq_true, if_false]
     rw [chk_app (by simp only [List.length_singleton]; omega) (by simp only [List.length_singleton]; omega)]
     rfl)
   (by simp only [F.array_summed_l1, dec_end, cond_false]) fu (by omega)
  rw [show keepU d at_ 0 = [] from rfl, show ((0 : Nat) : Int) = 0 from rfl] at h
  simp only [Bool.not_true, cond_false, h, Option.bind_some, if_true]
def badP (x y z : Int) : Bool := (decide (x < 0) || decide (x > 4096)) || ((decide (y < 0) || decide (y > 4096)) || (decide (z < 1) || decide (z > 4096)))
def padV (x y z d : Int) : Int := x + y + (if d > 0 then (d - 1) * z + 1 else 0)
def padL (op : SOp) (d : List Int) (k : Nat) : List Int := (List.range k).map fun (i : Nat) => padV (atI op.Lo i) (atI op.Hi i) (atI op.Step i) (atI d i)
theorem padL_len (op : SOp) (d : List Int) (k : Nat) : (padL op d k).length = k := by unfold padL; simp
theorem padL_succ (op : SOp) (d : List Int) (k : Nat) : padL op d (k + 1) = padL op d k ++ [padV (atI op.Lo k) (atI op.Hi k) (atI op.Step k) (atI d k)] := by
 unfold padL; rw [List.range_succ, List.map_append]; rfl
def badPs (op : SOp) (d : List Int) : Bool := (List.range d.length).any fun k => badP (atI op.Lo k) (atI op.Hi k) (atI op.Step k)
def lenP (op : SOp) (d : List Int) : Bool := ((op.Lo.length : Int) != d.length) || (((op.Hi.length : Int) != d.length) || ((op.Step.length : Int) != d.length))
def padS (op : SOp) (d : List Int) : List Int × Int := if lenP op d then ([], 6) else if badPs op d then ([], 4) else (padL op d d.length, 0)
theorem lenP_eq {op : SOp} {d : List Int} (h : lenP op d = false) : op.Lo.length = d.length ∧ op.Hi.length = d.length ∧ op.Step.length = d.length := by
 unfold lenP at h
 simp at h
 omega
theorem pad_ran {x y z d : Int} (h : badP x y z = false) (h0 : 0 ≤ d) (h1 : d ≤ 4096) : (0 ≤ x ∧ x ≤ 4096) ∧ (0 ≤ y ∧ y ≤ 4096) ∧ (1 ≤ z ∧ z ≤ 4096) ∧ (0 < d → 0 ≤ (d - 1) * z ∧ (d - 1) * z ≤ 16777216) := by
 simp [badP] at h
 obtain ⟨⟨a1, a2⟩, ⟨a3, a4⟩, a5, a6⟩ := h
 refine ⟨by omega, by omega, by omega, fun hd => ⟨Int.mul_nonneg (by omega) (by omega), ?_⟩⟩
 have := Int.mul_le_mul (show d - 1 ≤ 4096 by omega) (show z ≤ 4096 by omega) (by omega) (by omega)
 omega
theorem padded1_ok (fu : Nat) (x l : Int) : F.array_padded_1 fu x l = some (decide (x < l) || decide (x > 4096)) := by
 unfold F.array_padded_1; rw [cc]; rfl
theorem padDims_ok (fu : Nat) (op : SOp) (d : List Int) (hd : d.length ≤ 4000000) (hr : ∀ x ∈ d, 0 ≤ x ∧ x ≤ 4096) (hf : 4000000 < fu) : F.adjointref2_padDims fu op d = some (padS op d) := by
  unfold F.adjointref2_padDims padS
  have e : (cond ((op.Lo.length : Int) != (d.length : Int)) (some true) (cond ((op.Hi.length : Int) != (d.length : Int)) (some true) (some ((op.Step.length : Int) != (d.length : Int))))) = some (lenP op d) := by
    rw [cc, cc]; rfl
  rw [e]
  simp only [Option.bind_some]
  cases hlp : lenP op d with
  | true => rfl
  | false =>
    obtain ⟨e1, e2, e3⟩ := lenP_eq hlp
    have h := loop_at (body := F.adjointref2_padDims_l1 fu op d) d.length (fun k => ((k : Int), padL op d k)) (fun k => if badP (atI op.Lo k) (atI op.Hi k) (atI op.Step k) then some (Ex.ret ([], 4) : Ex (List Int) (List Int × Int)) else none) (Ex.brk (padL op d d.length))
      (fun k hk _ => by
        have hx := get_atI hk
        have hw := wrap_succ hk (by omega)
        have i1 := get_atI (l := op.Lo) (show k < op.Lo.length by omega)
        have i2 := get_atI (l := op.Hi) (show k < op.Hi.length by omega)
        have i3 := get_atI (l := op.Step) (show k < op.Step.length by omega)
        have hdr := hr _ (List.mem_of_getElem? hx)
        have hpl := padL_len op d k
        simp only [F.adjointref2_padDims_l1, dec_lt hx, cond_true, idx_nat hx, idx_nat i1, idx_nat i2, idx_nat i3, Option.bind_some, hw, cc, padL_succ]
        have eb : (decide (atI op.Lo k < 0) || (decide (atI op.Lo k > 4096) || (decide (atI op.Hi k < 0) || (decide (atI op.Hi k > 4096) || (decide (atI op.Step k < 1) || decide (atI op.Step k > 4096)))))) = badP (atI op.Lo k) (atI op.Hi k) (atI op.Step k) := by
          unfold badP; simp only [Bool.or_assoc]
        rw [eb]
        cases hb : badP (atI op.Lo k) (atI op.Hi k) (atI op.Step k) with
        | true => rfl
        | false =>
          obtain ⟨⟨a1, a2⟩, ⟨a3, a4⟩, ⟨a5, a6⟩, a7⟩ := pad_ran hb hdr.1 hdr.2
          simp only [cond_false, Bool.false_eq_true, if_false]
          unfold padV
          by_cases h0 : atI d k > 0
          · have a8 := a7 h0
            rw [dec_true h0, if_pos h0]
            simp only [cond_true, Option.bind_some]
            have w1 : IntKind.i64.wrap (atI d k - 1) = atI d k - 1 := i64 (by omega) (by omega)
            have w2 : IntKind.i64.wrap ((atI d k - 1) * atI op.Step k) = (atI d k - 1) * atI op.Step k := i64 (by omega) (by omega)
            have w3 : IntKind.i64.wrap ((atI d k - 1) * atI op.Step k + 1) = (atI d k - 1) * atI op.Step k + 1 := i64 (by omega) (by omega)
            have w4 : IntKind.i64.wrap (atI op.Lo k + ((atI d k - 1) * atI op.Step k + 1)) = atI op.Lo k + ((atI d k - 1) * atI op.Step k + 1) := i64 (by omega) (by omega)
            have w5 : IntKind.i64.wrap (atI op.Lo k + ((atI d k - 1) * atI op.Step k + 1) + atI op.Hi k) = atI op.Lo k + atI op.Hi k + ((atI d k - 1) * atI op.Step k + 1) := by rw [i64 (by omega) (by omega)]; omega
            rw [w1, w2, w3, w4, w5, chk_app (by simp only [List.length_singleton]; omega) (by simp only [List.length_singleton]; omega)]
            rfl
          · rw [dec_false h0, if_neg h0]
            simp only [cond_false, Option.bind_some]
            have w4 : IntKind.i64.wrap (atI op.Lo k + 0) = atI op.Lo k := by rw [i64 (by omega) (by omega)]; omega
            have w5 : IntKind.i64.wrap (atI op.Lo k + atI op.Hi k) = atI op.Lo k + atI op.Hi k + 0 := by rw [i64 (by omega) (by omega)]; omega
            rw [w4, w5, chk_app (by simp only [List.length_singleton]; omega) (by simp only [List.length_singleton]; omega)]
            rfl)
      (fun _ => by simp only [F.adjointref2_padDims_l1, dec_end, cond_false]) fu (by omega)
    rw [show padL op d 0 = [] from rfl, show ((0 : Nat) : Int) = 0 from rfl] at h
    rw [cond_false, h, findCst]
    unfold badPs
    cases (List.range d.length).any fun k => badP (atI op.Lo k) (atI op.Hi k) (atI op.Step k) <;> rfl
theorem set_mid (p : List Int) (q : List Int) (y x : Int) (k : Nat) (h : p.length = k) : (p ++ y :: q).set k x = p ++ x :: q := by
 subst h; simp
theorem padded_ok (fu : Nat) (op : SOp) (d : List Int) (hd : d.length ≤ 4000000) (hr : ∀ x ∈ d, 0 ≤ x ∧ x ≤ 4096) (hf : 4000000 < fu) : F.array_padded fu op d = some (padS op d) := by
  unfold F.array_padded padS
  have e : (cond ((op.Lo.length : Int) != (d.length : Int)) (some true) (cond ((op.Hi.length : Int) != (d.length : Int)) (some true) (some ((op.Step.length : Int) != (d.length : Int))))) = some (lenP op d) := by
    rw [cc, cc]; rfl
  rw [e]
  simp only [Option.bind_some]
  cases hlp : lenP op d with
  | true => rfl
  | false =>
    obtain ⟨e1, e2, e3⟩ := lenP_eq hlp
    have h := loop_at (body := F.array_padded_l1 fu op d) d.length (fun k => ((k : Int), padL op d k ++ List.replicate (d.length - k) 0)) (fun k => if badP (atI op.Lo k) (atI op.Hi k) (atI op.Step k) then some (Ex.ret ([], 4) : Ex (List Int) (List Int × Int)) else none) (Ex.brk (padL op d d.length))
      (fun k hk _ => by
        have hx := get_atI hk
        have hw := wrap_succ hk (by omega)
        have i1 := get_atI (l := op.Lo) (show k < op.Lo.length by omega)
        have i2 := get_atI (l := op.Hi) (show k < op.Hi.length by omega)
        have i3 := get_atI (l := op.Step) (show k < op.Step.length by omega)
        have hdr := hr _ (List.mem_of_getElem? hx)
        have hpl := padL_len op d k
        obtain ⟨q, hq⟩ : ∃ q, d.length - k = q + 1 := ⟨d.length - k - 1, by omega⟩
        have hq2 : d.length - (k + 1) = q := by omega
        simp only [F.array_padded_l1, dec_lt hx, cond_true, idx_nat hx, idx_nat i1, idx_nat i2, idx_nat i3, Option.bind_some, hw, padL_succ, padded1_ok, cc, hq, hq2, List.replicate_succ]
        have eb : (decide (atI op.Lo k < 0) || decide (atI op.Lo k > 4096) || (decide (atI op.Hi k < 0) || decide (atI op.Hi k > 4096) || (decide (atI op.Step k < 1) || decide (atI op.Step k > 4096)))) = badP (atI op.Lo k) (atI op.Hi k) (atI op.Step k) := rfl
        rw [eb]
        cases hb : badP (atI op.Lo k) (atI op.Hi k) (atI op.Step k) with
        | true => rfl
        | false =>
          obtain ⟨⟨a1, a2⟩, ⟨a3, a4⟩, ⟨a5, a6⟩, a7⟩ := pad_ran hb hdr.1 hdr.2
          have g0 : ∀ x : Int, (padL op d k ++ x :: List.replicate q 0)[k]? = some x := fun x => by rw [List.getElem?_append_right (by omega), hpl]; simp
          have w0 : IntKind.i64.wrap (atI op.Lo k + atI op.Hi k) = atI op.Lo k + atI op.Hi k := i64 (by omega) (by omega)
          simp only [cond_false, Bool.false_eq_true, if_false, idx_nat (g0 0), Option.bind_some, Int.toNat_natCast, set_mid _ _ _ _ k hpl, w0, idx_nat (g0 _)]
          unfold padV
          by_cases h0 : atI d k > 0
          · have a8 := a7 h0
            rw [dec_true h0, if_pos h0]
            have w1 : IntKind.i64.wrap (atI d k - 1) = atI d k - 1 := i64 (by omega) (by omega)
            have w2 : IntKind.i64.wrap ((atI d k - 1) * atI op.Step k) = (atI d k - 1) * atI op.Step k := i64 (by omega) (by omega)
            have w3 : IntKind.i64.wrap ((atI d k - 1) * atI op.Step k + 1) = (atI d k - 1) * atI op.Step k + 1 := i64 (by omega) (by omega)
            have w5 : IntKind.i64.wrap (atI op.Lo k + atI op.Hi k + ((atI d k - 1) * atI op.Step k + 1)) = atI op.Lo k + atI op.Hi k + ((atI d k - 1) * atI op.Step k + 1) := by rw [i64 (by omega) (by omega)]
            simp only [cond_true, Option.bind_some, w1, w2, w3, w5, List.append_assoc, List.singleton_append]
          · rw [dec_false h0, if_neg h0]
            simp only [cond_false, Option.bind_some, Int.add_zero, List.append_assoc, List.singleton_append])
      (fun _ => by simp only [F.array_padded_l1, dec_end, cond_false, Nat.sub_self, List.replicate_zero, List.append_nil]) fu (by omega)
    rw [show padL op d 0 = [] from rfl, show ((0 : Nat) : Int) = 0 from rfl, List.nil_append, Nat.sub_zero] at h
    rw [cond_false, chk_pos (by omega)]
    simp only [Option.bind_some, Int.toNat_natCast]
    rw [h, findCst]
    unfold badPs
    cases (List.range d.length).any fun k => badP (atI op.Lo k) (atI op.Hi k) (atI op.Step k) <;> rfl
end Go.DN.Pl
