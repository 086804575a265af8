/-
  AM, part Y: plain facts of partial functions.
-/
import Derived.Test.YtimngflnekddpaaAmO
import Derived.IntWalk
namespace Go.AM

/-- A loop that ends, with an invariant and a measure. -/
theorem loopF_inv {σ ρ : Type} {body : σ → Option (σ ⊕ ρ)} (I : σ → Prop) (m : σ → Nat) (R : ρ → Prop)
    (hstep : ∀ x, I x → (∃ x', body x = some (.inl x') ∧ I x' ∧ m x' < m x) ∨ ∃ r, body x = some (.inr r) ∧ R r) :
    ∀ (n : Nat) (x : σ), I x → m x < n → ∃ r, loopF body n x = some r ∧ R r := by
  intro n
  induction n with
  | zero => intro x _ h; omega
  | succ n ih =>
    intro x hI hm
    rcases hstep x hI with ⟨x', h1, h2, h3⟩ | ⟨r, h1, h2⟩
    · obtain ⟨r, h4, h5⟩ := ih x' h2 (by omega)
      exact ⟨r, by simp only [loopF, h1]; exact h4, h5⟩
    · exact ⟨r, by simp only [loopF, h1], h2⟩

/-- The same with the loop's value known. -/
theorem loopF_val {σ ρ : Type} {body : σ → Option (σ ⊕ ρ)} (I : σ → Prop) (m : σ → Nat) (v : ρ)
    (hstep : ∀ x, I x → (∃ x', body x = some (.inl x') ∧ I x' ∧ m x' < m x) ∨ body x = some (.inr v)) (n : Nat) (x : σ) (hI : I x) (hm : m x < n) : loopF body n x = some v := by
  obtain ⟨r, h1, h2⟩ := loopF_inv I m (· = v) (fun x hx => (hstep x hx).imp id fun h => ⟨v, h, rfl⟩) n x hI hm
  rw [h1, h2]

theorem idx_nat {α : Type} {l : List α} {i : Nat} {x : α} (h : l[i]? = some x) : idx l (i : Int) = some x := by
  unfold idx
  rw [if_pos (by omega)]
  simpa using h
theorem idx_lt {α : Type} {l : List α} {i : Int} (h0 : 0 ≤ i) (h1 : i < (l.length : Int)) : ∃ x, idx l i = some x ∧ l[i.toNat]? = some x := by
  refine ⟨l[i.toNat]'(by omega), ?_, ?_⟩
  · unfold idx
    rw [if_pos h0]
    exact List.getElem?_eq_getElem _
  · exact List.getElem?_eq_getElem _
theorem bidx_lt {l : ByteArray} {i : Int} (h0 : 0 ≤ i) (h1 : i < (l.size : Int)) : ∃ x, bidx l i = some x ∧ l[i.toNat]? = some x := by
  have h : i.toNat < l.size := by omega
  refine ⟨l[i.toNat], ?_, ?_⟩
  · unfold bidx
    rw [if_pos h0]
    exact getElem?_pos ..
  · exact getElem?_pos ..
theorem chk_pos {p : Prop} [Decidable p] (h : p) : chk p = some () := by unfold chk; rw [if_pos h]
theorem i64 {n : Int} (h0 : -9223372036854775808 ≤ n) (h1 : n ≤ 9223372036854775807) : IntKind.i64.wrap n = n := IntWalk.i64_in n ⟨h0, h1⟩
theorem u64 {n : Int} (h0 : 0 ≤ n) (h1 : n ≤ 18446744073709551615) : IntKind.u64.wrap n = n := IntWalk.u64_in n ⟨h0, h1⟩
theorem u64_ran (n : Int) : 0 ≤ IntKind.u64.wrap n ∧ IntKind.u64.wrap n ≤ 18446744073709551615 := by
  rw [IntKind.wrap_u64]; omega
end Go.AM
