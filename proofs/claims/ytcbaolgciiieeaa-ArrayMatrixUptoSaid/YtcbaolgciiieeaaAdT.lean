/-
  Arrays: the plain law: places that are free, padded, joined.
-/
import Derived.Test.YtcbaolgciiieeaaAdR
set_option linter.unusedSectionVars false
set_option linter.unusedSimpArgs false
set_option linter.unusedVariables false
namespace Go.DN.Pl
open Go.AM Go.PL
theorem loop_count {τ ρ : Type} {body : τ → Option (τ ⊕ ρ)} (m : Nat) (st : Nat → τ) (e : ρ)
  (hbody : ∀ k, k < m → body (st k) = some (.inl (st (k + 1)))) (hend : body (st m) = some (.inr e)) (n : Nat) (hn : m < n) :
  loopF body n (st 0) = some e := by
 have h := loop_at (body := body) m st (fun _ => (none : Option ρ)) e (fun k hk _ => hbody k hk) (fun _ => hend) n hn
 rw [h, show (List.range m).findSome? (fun _ => (none : Option ρ)) = none from List.findSome?_eq_none_iff.2 fun _ _ => rfl]
def freeU (ins : List Int) : Nat → List Int
 | 0 => []
 | k + 1 => if hasB ins k then freeU ins k else freeU ins k ++ [(k : Int)]
def keepU (d ins : List Int) (k : Nat) : List Int := (freeU ins k).map fun i => atI d i.toNat
theorem freeU_len (ins : List Int) : ∀ k, (freeU ins k).length ≤ k
 | 0 => by simp [freeU]
 | k + 1 => by have := freeU_len ins k; unfold freeU; split <;> simp <;> omega
theorem freeU_ran (ins : List Int) : ∀ k, ∀ x ∈ freeU ins k, 0 ≤ x ∧ x < (k : Int)
  | 0 => by simp [freeU]
  | k + 1 => by
    intro x hx
    have := freeU_ran ins k
    unfold freeU at hx
    split at hx
    · have := this x hx; omega
    · rcases List.mem_append.1 hx with h | h
      · have := this x h; omega
      · simp at h; omega
theorem keepU_succ (d ins : List Int) (k : Nat) : keepU d ins (k + 1) = if hasB ins k then keepU d ins k else keepU d ins k ++ [atI d k] := by
 unfold keepU
 rw [show freeU ins (k + 1) = if hasB ins k then freeU ins k else freeU ins k ++ [(k : Int)] from rfl]
 split
 · rfl
 · rw [List.map_append]; simp
theorem keepU_len (d ins : List Int) (k : Nat) : (keepU d ins k).length ≤ k := by unfold keepU; rw [List.length_map]; exact freeU_len ins k
theorem hasB_app (a b : List Int) (n : Int) : hasB (a ++ b) n = (hasB a n || hasB b n) := by unfold hasB; rw [List.any_append]
theorem freeU_comm (a b : List Int) : ∀ k, freeU (a ++ b) k = freeU (b ++ a) k
 | 0 => rfl
 | k + 1 => by
  have e : hasB (a ++ b) (k : Int) = hasB (b ++ a) (k : Int) := by rw [hasB_app, hasB_app, Bool.or_comm]
  unfold freeU
  rw [freeU_comm a b k, e]
theorem keepU_comm (d a b : List Int) (k : Nat) : keepU d (a ++ b) k = keepU d (b ++ a) k := by unfold keepU; rw [freeU_comm]
theorem free_ok (fu : Nat) (d ins : List Int) (hd : d.length ≤ 4000000) (hi : ins.length ≤ 4000000) (hf : 4000000 < fu) : F.adjointref2_Free fu d ins = some (freeU ins d.length) := by
 unfold F.adjointref2_Free
 have h := loop_count (body := F.adjointref2_Free_l1 fu d ins) d.length (fun k => ((k : Int), freeU ins k)) (freeU ins d.length)
  (fun k hk => by
   have hx := get_atI hk
   have hw := wrap_succ hk (by omega)
   have hl := freeU_len ins k
   simp only [F.adjointref2_Free_l1, dec_lt hx, cond_true, has2_ok fu ins _ hi hf, Option.bind_some, hw]
   rw [show freeU ins (k + 1) = if hasB ins k then freeU ins k else freeU ins k ++ [(k : Int)] from rfl]
   cases hasB ins (k : Int) with
   | true => rfl
   | false =>
    simp only [Bool.not_false, cond_true, Bool.false_eq_true, if_false]
    rw [chk_app (by simp only [List.length_singleton]; omega) (by simp only [List.length_singleton]; omega)]
    rfl)
  (by simp only [F.adjointref2_Free_l1, dec_end, cond_false]) fu (by omega)
 rw [show freeU ins 0 = [] from rfl, show ((0 : Nat) : Int) = 0 from rfl] at h
 simp only [h, Option.bind_some]
def chosenL (d at_ : List Int) : List Int := at_.map fun i => atI d i.toNat
theorem chosenL_len (d at_ : List Int) : (chosenL d at_).length = at_.length := by unfold chosenL; rw [List.length_map]
theorem chosen_ok (fu : Nat) (d at_ : List Int) (ha : at_.length ≤ 4000000) (hr : ∀ x ∈ at_, 0 ≤ x ∧ x < (d.length : Int)) (hf : 4000000 < fu) : F.adjointref2_chosen fu d at_ = some (chosenL d at_) := by
 unfold F.adjointref2_chosen
 have h := loop_acc (body := F.adjointref2_chosen_l1 fu d at_) at_ (fun k => ((k : Int), (chosenL d at_).take k)) (chosenL d at_)
  (fun k x hx => by
   have hw := wrap_succ (get_lt hx) (by omega)
   have hr := hr x (List.mem_of_getElem? hx)
   obtain ⟨q, hq⟩ : ∃ q : Nat, x = q := ⟨x.toNat, by omega⟩
   have hy := get_atI (l := d) (show q < d.length by omega)
   have hc : (chosenL d at_)[k]? = some (atI d q) := by unfold chosenL; rw [List.getElem?_map, hx]; simp [hq]
   have hl := lenT hc
   have := get_lt hx
   simp only [F.adjointref2_chosen_l1, dec_lt hx, cond_true, idx_nat hx, Option.bind_some, hw]
   rw [hq, idx_nat hy]
   simp only [Option.bind_some]
   rw [chk_app (by simp only [List.length_singleton]; omega) (by simp only [List.length_singleton]; omega), take_succ hc]
   rfl)
  (by
   have : (chosenL d at_).take at_.length = chosenL d at_ := by rw [← chosenL_len d at_]; exact List.take_length
   simp only [F.adjointref2_chosen_l1, dec_end, cond_false, this]) fu (by omega)
 rw [List.take_zero, show ((0 : Nat) : Int) = 0 from rfl] at h
 simp only [h, Option.bind_some]
theorem chosen_free (fu : Nat) (d ins : List Int) (hd : d.length ≤ 4000000) (hf : 4000000 < fu) : F.adjointref2_chosen fu d (freeU ins d.length) = some (keepU d ins d.length) :=
 chosen_ok fu d _ (by have := freeU_len ins d.length; omega) (freeU_ran ins d.length) hf
theorem both_ok (fu : Nat) (a b : List Int) (ha : a.length ≤ 4000000) (hb : b.length ≤ 4000000) : F.adjointref2_both fu a b = some (a ++ b) := by
 unfold F.adjointref2_both
 rw [chk_app (by simp only [List.length_nil]; omega) (by simp only [List.length_nil]; omega)]
 simp only [Option.bind_some, List.nil_append]
 rw [chk_app (by omega) (by omega)]
 rfl
theorem set_mid (p : List Int) (q : List Int) (y x : Int) (k : Nat) (h : p.length = k) : (p ++ y :: q).set k x = p ++ x :: q := by
 subst h; simp
end Go.DN.Pl
