/-
  Plain laws, part A: loops over lists, appends, tests, once more.
-/
import Derived.Test.YtllnemgkfdgljaaMgB
import Derived.Test.YtllnemgkfdgljaaMgG
set_option linter.unusedSectionVars false
set_option linter.unusedSimpArgs false
set_option linter.unusedVariables false
namespace Go.PL
open Go.AM Go.DN
theorem loop_acc {τ α ρ : Type} {body : τ → Option (τ ⊕ ρ)} (l : List α) (st : Nat → τ) (r : ρ)
  (hbody : ∀ k x, l[k]? = some x → body (st k) = some (.inl (st (k + 1)))) (hend : body (st l.length) = some (.inr r)) (n : Nat) (hn : l.length < n) :
  loopF body n (st 0) = some r := by
 have key : ∀ (m k n : Nat), m = l.length - k → k ≤ l.length → m < n → loopF body n (st k) = some r := by
  intro m
  induction m with
  | zero =>
   intro k n hm hk hn
   obtain rfl : k = l.length := by omega
   cases n with
   | zero => omega
   | succ n => simp only [loopF, hend]
  | succ m ih =>
   intro k n hm hk hn
   cases n with
   | zero => omega
   | succ n =>
    have hlt : k < l.length := by omega
    simp only [loopF, hbody k _ (List.getElem?_eq_getElem hlt)]
    exact ih (k + 1) n (by omega) (by omega) (by omega)
 exact key l.length 0 n (by omega) (by omega) hn
theorem dec_true {p : Prop} [Decidable p] (h : p) : decide p = true := by simp [h]
theorem dec_false {p : Prop} [Decidable p] (h : ¬ p) : decide p = false := by simp [h]
end Go.PL
