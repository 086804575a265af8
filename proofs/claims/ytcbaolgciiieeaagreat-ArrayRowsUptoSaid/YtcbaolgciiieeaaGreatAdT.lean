/-
  Arrays: the plain law: places that are free, padded, joined.
-/
import Derived.Test.YtcbaolgciiieeaaGreatAdR
set_option linter.unusedSectionVars false
set_option linter.unusedSimpArgs false
set_option linter.unusedVariables false
namespace Go.DN.Pl
open Go.AM Go.PL
theorem loop_count {τ ρ : Type} {body : τ → Option (τ ⊕ ρ)} (m : Nat) (st : Nat → τ) (e : ρ)
  (hbody : ∀ k, k < m → body (st k) = some (.inl (st (k + 1)))) (hend : body (st m) = some (.inr e)) (n : Nat) (hn : m < n) :
  loopF body n (st 0) = some e := by
 have h := loop_at (body := body) m st (fun _ => (none : Option ρ)) e (fun k hk _ => hbody k hk) (fun _ => hend) n hn
 rw [h, show (List.range m).findSome? (fun _ => (none : Option ρ)) = none from List.findSome?_eq_none_iff.2 fun _ _ => rfl]
theorem hasB_app (a b : List Int) (n : Int) : hasB (a ++ b) n = (hasB a n || hasB b n) := by unfold hasB; rw [List.any_append]
theorem both_ok (fu : Nat) (a b : List Int) (ha : a.length ≤ 4000000) (hb : b.length ≤ 4000000) : F.adjointref2_both fu a b = some (a ++ b) := by
 unfold F.adjointref2_both
 rw [chk_app (by simp only [List.length_nil]; omega) (by simp only [List.length_nil]; omega)]
 simp only [Option.bind_some, List.nil_append]
 rw [chk_app (by omega) (by omega)]
 rfl
end Go.DN.Pl
