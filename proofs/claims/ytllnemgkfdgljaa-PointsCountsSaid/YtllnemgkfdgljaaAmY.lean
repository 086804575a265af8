/-
  AM, part Y: plain facts of partial functions.
-/
import Derived.Test.YtllnemgkfdgljaaAmO
import Derived.IntWalk
set_option linter.unusedSectionVars false
set_option linter.unusedSimpArgs false
set_option linter.unusedVariables false
namespace Go.AM

/-- A loop that ends, with an invariant and a measure. -/
theorem loopF_inv {σ ρ : Type} {body : σ → Option (σ ⊕ ρ)} (I : σ → Prop) (m : σ → Nat) (R : ρ → Prop)
    (hstep : ∀ x, I x → (∃ x', body x = some (.inl x') ∧ I x' ∧ m x' < m x) ∨ ∃ r, body x = some (.inr r) ∧ R r) :
    ∀ (n : Nat) (x : σ), I x → m x < n → ∃ r, loopF body n x = some r ∧ R r := by
  intro n
  induction n with
  | zero => intro x _ h; omega
  | succ n ih =>
    intro x hI hm
    rcases hstep x hI with ⟨x', h1, h2, h3⟩ | ⟨r, h1, h2⟩
    · obtain ⟨r, h4, h5⟩ := ih x' h2 (by omega)
      exact ⟨r, by simp only [loopF, h1]; exact h4, h5⟩
    · exact ⟨r, by simp only [loopF, h1], h2⟩

/-- The same with the loop's value known. -/
theorem loopF_val {σ ρ : Type} {body : σ → Option (σ ⊕ ρ)} (I : σ → Prop) (m : σ → Nat) (v : ρ)
    (hstep : ∀ x, I x → (∃ x', body x = some (.inl x') ∧ I x' ∧ m x' < m x) ∨ body x = some (.inr v)) (n : Nat) (x : σ) (hI : I x) (hm : m x < n) : loopF body n x = some v := by
  obtain ⟨r, h1, h2⟩ := loopF_inv I m (· = v) (fun x hx => (hstep x hx).imp id fun h => ⟨v, h, rfl⟩) n x hI hm
  rw [h1, h2]

theorem idx_nat {α : Type} {l : List α} {i : Nat} {x : α} (h : l[i]? = some x) : idx l (i : Int) = some x := by
  unfold idx
  rw [if_pos (by omega)]
  simpa using h
theorem idx_lt {α : Type} {l : List α} {i : Int} (h0 : 0 ≤ i) (h1 : i < (l.length : Int)) : ∃ x, idx l i = some x ∧ l[i.toNat]? = some x := by
  refine ⟨l[i.toNat]'(by omega), ?_, ?_⟩
  · unfold idx
    rw [if_pos h0]
    exact List.getElem?_eq_getElem _
  · exact List.getElem?_eq_getElem _
theorem bidx_lt {l : ByteArray} {i : Int} (h0 : 0 ≤ i) (h1 : i < (l.size : Int)) : ∃ x, bidx l i = some x ∧ l[i.toNat]? = some x := by
  have h : i.toNat < l.size := by omega
  refine ⟨l[i.toNat], ?_, ?_⟩
  · unfold bidx
    rw [if_pos h0]
    exact getElem?_pos ..
  · exact getElem?_pos ..
theorem chk_pos {p : Prop} [Decidable p] (h : p) : chk p = some () := by unfold chk; rw [if_pos h]
theorem i64 {n : Int} (h0 : -9223372036854775808 ≤ n) (h1 : n ≤ 9223372036854775807) : IntKind.i64.wrap n = n := IntWalk.i64_in n ⟨h0, h1⟩
theorem u64 {n : Int} (h0 : 0 ≤ n) (h1 : n ≤ 18446744073709551615) : IntKind.u64.wrap n = n := IntWalk.u64_in n ⟨h0, h1⟩
theorem u64_ran (n : Int) : 0 ≤ IntKind.u64.wrap n ∧ IntKind.u64.wrap n ≤ 18446744073709551615 := by
  rw [IntKind.wrap_u64]; omega

/-! ### Loops over a list -/

def foldE {σ α ρ : Type} (g : σ → α → Option (σ ⊕ ρ)) (e : σ → ρ) : σ → List α → Option ρ
  | s, [] => some (e s)
  | s, x :: r => match g s x with
    | some (.inl s') => foldE g e s' r
    | some (.inr v) => some v
    | none => none

/-- What a loop's turn makes of its state. -/
def turn {σ τ ρ : Type} (f : σ → τ) : Option (σ ⊕ ρ) → Option (τ ⊕ ρ)
  | some (.inl s) => some (.inl (f s))
  | some (.inr r) => some (.inr r)
  | none => none

theorem loop_list {σ τ α ρ : Type} {body : τ → Option (τ ⊕ ρ)} (l : List α) (st : σ → Int → τ) (g : σ → α → Option (σ ⊕ ρ)) (e : σ → ρ)
    (hbody : ∀ (s : σ) (k : Nat) (x : α), l[k]? = some x → body (st s k) = turn (fun s' => st s' ((k + 1 : Nat) : Int)) (g s x)) (hend : ∀ s : σ, body (st s (l.length : Int)) = some (.inr (e s)))
    (n : Nat) (hn : l.length < n) (s : σ) : loopF body n (st s 0) = foldE g e s l := by
  have key : ∀ (m k n : Nat) (s : σ), m = l.length - k → k ≤ l.length → m < n → loopF body n (st s (k : Int)) = foldE g e s (l.drop k) := by
    intro m
    induction m with
    | zero =>
      intro k n s hm hk hn
      obtain rfl : k = l.length := by omega
      cases n with
      | zero => omega
      | succ n => simp only [loopF, hend, List.drop_length, foldE]
    | succ m ih =>
      intro k n s hm hk hn
      cases n with
      | zero => omega
      | succ n =>
        have hlt : k < l.length := by omega
        have hx : l[k]? = some l[k] := List.getElem?_eq_getElem hlt
        rw [List.drop_eq_getElem_cons hlt]
        simp only [loopF, hbody s k _ hx, foldE]
        cases hg : g s l[k] with
        | none => simp only [turn]
        | some o =>
          cases o with
          | inl s' => simp only [turn]; exact ih (k + 1) n s' (by omega) (by omega) (by omega)
          | inr v => simp only [turn]
  have := key l.length 0 n s (by omega) (by omega) hn
  simpa using this

theorem wrap_succ {k n : Nat} (h : k < n) (hn : n ≤ 9223372036854775807) : IntKind.i64.wrap ((k : Int) + 1) = ((k + 1 : Nat) : Int) := by
  rw [i64 (by omega) (by omega)]; omega
theorem get_lt {α : Type} {l : List α} {k : Nat} {x : α} (h : l[k]? = some x) : k < l.length := (List.getElem?_eq_some_iff.1 h).1
theorem dec_lt {α : Type} {l : List α} {k : Nat} {x : α} (h : l[k]? = some x) : decide ((k : Int) < (l.length : Int)) = true := by have := get_lt h; simp; omega
theorem dec_end {α : Type} (l : List α) : decide ((l.length : Int) < (l.length : Int)) = false := by simp

section
variable {α : Type} [DecidableEq α]

/-- Two lists of one length, place by place. -/
theorem equal_loop (a b : List α) (hl : a.length = b.length) (h63 : a.length ≤ 9223372036854775807) (n : Nat) (hn : a.length < n) :
    loopF (fun i : Int => cond (decide (i < (List.length a : Int))) ((idx a i).bind fun x2 => (idx b i).bind fun x3 => cond (x2 != x3) (some (.inr (.ret false))) (some (.inl (IntKind.i64.wrap (i + 1))))) (some (.inr (.brk ())))) n 0 =
      some (if a = b then Ex.brk () else Ex.ret false) := by
  have h1 := loop_list (σ := Unit) (body := fun i : Int => cond (decide (i < (List.length a : Int))) ((idx a i).bind fun x2 => (idx b i).bind fun x3 => cond (x2 != x3) (some (.inr (.ret false))) (some (.inl (IntKind.i64.wrap (i + 1))))) (some (.inr (.brk ()))))
    (a.zip b) (fun _ i => i) (fun _ p => cond (p.1 != p.2) (some (.inr (Ex.ret false))) (some (.inl ()))) (fun _ => Ex.brk ()) ?_ ?_ n (by simp [hl]; omega) ()
  · rw [h1]
    clear h1 hn h63
    induction a generalizing b with
    | nil => cases b with
      | nil => simp [foldE]
      | cons _ _ => simp at hl
    | cons x a ih => cases b with
      | nil => simp at hl
      | cons y b =>
        simp only [List.zip_cons_cons, foldE]
        by_cases h : x = y
        · subst h
          simp only [bne_self_eq_false, cond_false, List.cons.injEq, true_and]
          exact ih b (by simpa using hl)
        · have : (x != y) = true := by simpa using h
          simp [this, h]
  · intro _ k p hp
    have hk := get_lt hp
    rw [List.length_zip, hl, Nat.min_self] at hk
    rw [List.getElem?_zip_eq_some] at hp
    have hw := wrap_succ (k := k) (n := a.length) (by omega) h63
    simp only [dec_lt hp.1, cond_true, idx_nat hp.1, idx_nat hp.2, Option.bind_some, hw]
    cases p.1 != p.2 <;> simp [turn]
  · intro _
    have : (a.zip b).length = a.length := by simp [hl]
    simp only [this, dec_end, cond_false]

/-- The first place at which something holds. -/
theorem indexP_loop {β : Type} (s : List β) (f : β → Option Bool) (p : β → Bool) (hf : ∀ x, f x = some (p x)) (h63 : s.length ≤ 9223372036854775807) (n : Nat) (hn : s.length < n) :
    ∃ r, loopF (fun i : Int => cond (decide (i < (List.length s : Int))) ((idx s i).bind fun x2 => (f x2).bind fun r3 => cond r3 (some (.inr (Ex.ret i))) (some (.inl (IntKind.i64.wrap (i + 1))))) (some (.inr (.brk ())))) n 0 = some r ∧
      (match r with | .brk _ => s.any p = false | .ret i => 0 ≤ i ∧ s.any p = true) := by
  refine loopF_inv (fun i : Int => ∃ k : Nat, i = (k : Int) ∧ k ≤ s.length ∧ (s.take k).any p = false) (fun i : Int => s.length - i.toNat) _ ?_ n 0 ⟨0, rfl, by omega, by simp⟩ (by simpa using hn)
  rintro i ⟨k, rfl, hk, hv⟩
  by_cases h : k < s.length
  · have hx : s[k]? = some s[k] := List.getElem?_eq_getElem h
    cases hv' : p s[k] with
    | true =>
      right
      refine ⟨.ret k, ?_, by omega, ?_⟩
      · simp only [dec_lt hx, cond_true, idx_nat hx, Option.bind_some, hf, hv']
      · rw [List.any_eq_true]; exact ⟨s[k], List.getElem_mem h, hv'⟩
    | false =>
      left
      refine ⟨((k + 1 : Nat) : Int), ?_, ⟨k + 1, rfl, by omega, ?_⟩, by simp only [Int.toNat_natCast]; omega⟩
      · simp only [dec_lt hx, cond_true, idx_nat hx, Option.bind_some, wrap_succ h h63, hf, hv', cond_false]
      · rw [List.take_add_one, hx]
        simp only [Option.toList_some, List.any_append, List.any_cons, List.any_nil, hv, hv', Bool.or_self]
  · right
    obtain rfl : k = s.length := by omega
    refine ⟨.brk (), by simp only [dec_end, cond_false], ?_⟩
    simpa using hv

/-- The first place of a number. -/
theorem index_loop (s : List α) (v : α) (h63 : s.length ≤ 9223372036854775807) (n : Nat) (hn : s.length < n) :
    ∃ r, loopF (fun i : Int => cond (decide (i < (List.length s : Int))) ((idx s i).bind fun x2 => cond (v == x2) (some (.inr (Ex.ret i))) (some (.inl (IntKind.i64.wrap (i + 1))))) (some (.inr (.brk ())))) n 0 = some r ∧
      (match r with | .brk _ => v ∉ s | .ret i => 0 ≤ i ∧ v ∈ s) := by
  refine loopF_inv (fun i : Int => ∃ k : Nat, i = (k : Int) ∧ k ≤ s.length ∧ v ∉ s.take k) (fun i : Int => s.length - i.toNat) _ ?_ n 0 ⟨0, rfl, by omega, by simp⟩ (by simpa using hn)
  rintro i ⟨k, rfl, hk, hv⟩
  by_cases h : k < s.length
  · have hx : s[k]? = some s[k] := List.getElem?_eq_getElem h
    by_cases hv' : v = s[k]
    · right
      refine ⟨.ret k, ?_, by omega, ?_⟩
      · simp only [dec_lt hx, cond_true, idx_nat hx, Option.bind_some]
        rw [show (v == s[k]) = true by simpa using hv']; rfl
      · rw [hv']; exact List.getElem_mem h
    · left
      refine ⟨((k + 1 : Nat) : Int), ?_, ⟨k + 1, rfl, by omega, ?_⟩, by simp only [Int.toNat_natCast]; omega⟩
      · simp only [dec_lt hx, cond_true, idx_nat hx, Option.bind_some, wrap_succ h h63]
        rw [show (v == s[k]) = false by simpa using hv']; rfl
      · rw [List.take_add_one, hx]
        simp only [Option.toList_some, List.mem_append, List.mem_singleton, not_or]
        exact ⟨hv, hv'⟩
  · right
    obtain rfl : k = s.length := by omega
    refine ⟨.brk (), by simp only [dec_end, cond_false], ?_⟩
    simpa using hv
end
end Go.AM
