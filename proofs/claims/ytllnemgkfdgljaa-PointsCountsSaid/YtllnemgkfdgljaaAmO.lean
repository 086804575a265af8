/-
  AM, part O: data as Lean data: encodings; loops and joins as partial functions.
-/
import Derived.Test.YtllnemgkfdgljaaAmN
set_option linter.unusedSectionVars false
set_option linter.unusedSimpArgs false
set_option linter.unusedVariables false
namespace Go.AM

/-! ### Partial functions -/

inductive Ex (β γ : Type) where
  | brk (b : β)
  | ret (r : γ)

def bindE {β γ ο : Type} (inj : γ → ο) (m : Option (Ex β γ)) (k : β → Option ο) : Option ο :=
  match m with
  | some (.brk b) => k b
  | some (.ret r) => some (inj r)
  | none => none

def loopF {σ ρ : Type} (body : σ → Option (σ ⊕ ρ)) : Nat → σ → Option ρ
  | 0, _ => none
  | n + 1, x => match body x with
    | some (.inl x') => loopF body n x'
    | some (.inr r) => some r
    | none => none

def idx {α : Type} (l : List α) (i : Int) : Option α := if 0 ≤ i then l[i.toNat]? else none
def bidx (l : ByteArray) (i : Int) : Option UInt8 := if 0 ≤ i then l[i.toNat]? else none
theorem bidx_spec {l : ByteArray} {i : Int} {x : UInt8} (h : bidx l i = some x) : 0 ≤ i ∧ l[i.toNat]? = some x := by
  unfold bidx at h
  split at h
  · rename_i h0; exact ⟨h0, h⟩
  · cases h
def chk (p : Prop) [Decidable p] : Option Unit := if p then some () else none

theorem idx_spec {α : Type} {l : List α} {i : Int} {x : α} (h : idx l i = some x) : 0 ≤ i ∧ i < (l.length : Int) ∧ l[i.toNat]? = some x := by
  unfold idx at h
  split at h
  · rename_i h0
    have := (List.getElem?_eq_some_iff.1 h).1
    exact ⟨h0, by omega, h⟩
  · cases h
theorem chk_spec {p : Prop} [Decidable p] {u : Unit} (h : chk p = some u) : p := by
  unfold chk at h
  split at h
  · assumption
  · cases h
theorem bind_some {α β : Type} {m : Option α} {k : α → Option β} {r : β} (h : m.bind k = some r) : ∃ x, m = some x ∧ k x = some r := Option.bind_eq_some_iff.1 h
theorem bindE_some {β γ ο : Type} {inj : γ → ο} {m : Option (Ex β γ)} {k : β → Option ο} {r : ο} (h : bindE inj m k = some r) : ∃ e, m = some e ∧ (∀ b, e = .brk b → k b = some r) ∧ (∀ r', e = .ret r' → inj r' = r) := by
  unfold bindE at h
  split at h
  · exact ⟨_, rfl, fun b e => (by cases e; exact h), fun r' e => (by cases e)⟩
  · exact ⟨_, rfl, fun b e => (by cases e), fun r' e => (by cases e; cases h; rfl)⟩
  · cases h
theorem condT {α : Type} {b : Bool} {x y : α} {r : α} (h : b = true) (H : cond b x y = r) : x = r := by rw [h] at H; exact H
theorem condF {α : Type} {b : Bool} {x y : α} {r : α} (h : b = false) (H : cond b x y = r) : y = r := by rw [h] at H; exact H

section
variable {P : Program} {N : Nat} {cx : Cx} {Q : Exit → St → Prop}

/-- What a scope's end says. -/
def QB {β : Type} (ke : Exit) (E : β → St) (b : β) (ex : Exit) (s : St) : Prop := ex = ke ∧ Sub s (E b)
def QJ {β γ : Type} (ke : Exit) (E : β → St) (R : γ → Exit → St → Prop) : Ex β γ → Exit → St → Prop
  | .brk b, ex, s => ex = ke ∧ Sub s (E b)
  | .ret r, ex, s => ex = .ret ∧ R r ex s
def QL {σ ρ : Type} (E : σ → St) (R : ρ → Exit → St → Prop) : σ ⊕ ρ → Exit → St → Prop
  | .inl x, ex, s => ex = .normal ∧ Sub s (E x)
  | .inr r, ex, s => ex ≠ .normal ∧ R r ex s

theorem GW.loopF {σ ρ : Type} {c : Code} (E : σ → St) (R : ρ → Exit → St → Prop) {body : σ → Option (σ ⊕ ρ)} {n : Nat} {x0 : σ} {e : ρ} (hl : AM.loopF body n x0 = some e)
    (hr : ∀ x o, body x = some o → GW P N cx c (QL E R o) (E x)) (hq : ∀ ex s, ex ≠ .normal → R e ex s → Q ex s) : GW P N cx (.loop c) Q (E x0) := by
  let Step : Nat → σ → Prop := fun k x => AM.loopF body k x = some e
  refine (GW.loop (P := P) (N := N) (cx := cx) (Q := Q) (σ := Nat × σ) (fun x => E x.2) (fun x => Step x.1 x.2) (fun x => x.1) (n, x0) hl ?_)
  rintro ⟨k, x⟩ hI
  cases k with
  | zero => exact absurd hI (by simp [Step, AM.loopF])
  | succ k =>
    simp only [Step, AM.loopF] at hI
    cases hb : body x with
    | none => rw [hb] at hI; cases hI
    | some o =>
      rw [hb] at hI
      refine (hr x o hb).mono fun ex s hx => ?_
      cases o with
      | inl x' =>
        obtain ⟨rfl, hs⟩ := hx
        exact ⟨(k, x'), hI, Nat.lt_succ_self k, hs⟩
      | inr r =>
        cases hI
        obtain ⟨h1, h2⟩ := hx
        have := hq ex s h1 h2
        cases ex <;> first | exact absurd rfl h1 | exact this

theorem QB.mk {β : Type} {ke : Exit} {E : β → St} {b : β} {s : St} (h : Sub s (E b)) : QB ke E b ke s := ⟨rfl, h⟩
theorem QJ.mkB {β γ : Type} {ke : Exit} {E : β → St} {R : γ → Exit → St → Prop} {b : β} {s : St} (h : Sub s (E b)) : QJ ke E R (.brk b) ke s := ⟨rfl, h⟩
theorem QJ.mkR {β γ : Type} {ke : Exit} {E : β → St} {R : γ → Exit → St → Prop} {r : γ} {s : St} (h : R r .ret s) : QJ ke E R (.ret r) .ret s := ⟨rfl, h⟩
theorem QL.mkL {σ ρ : Type} {E : σ → St} {R : ρ → Exit → St → Prop} {x : σ} {s : St} (h : Sub s (E x)) : QL E R (.inl x) .normal s := ⟨rfl, h⟩
theorem QL.mkR {σ ρ : Type} {E : σ → St} {R : ρ → Exit → St → Prop} {r : ρ} {ex : Exit} {s : St} (hn : ex ≠ .normal) (h : R r ex s) : QL E R (.inr r) ex s := ⟨hn, h⟩
theorem ret_ne : Exit.ret ≠ Exit.normal := fun h => by cases h
theorem exit_ne {id : Nat} : Exit.exit id ≠ Exit.normal := fun h => by cases h
theorem RetQ.mk {fn : Func} {Qf : G → List (Nat × Blk) → Prop} {s : St} {e : Exit} (he : e = .ret ∨ e = .normal) (gs : List G) (r : G) (st' : List (Nat × Blk)) (h1 : Ress P s fn.results.toList gs) (h2 : SubSt s.st st') (h3 : fzG s.st st' (pack gs) = some r) (h4 : Qf r st') (hdf : s.df = [] := by rfl) : RetQ P fn Qf e s :=
  ⟨he, hdf, gs, r, st', h1, h2, h3, h4⟩

/-- The two ways of an 'if' meet again (or a block is left at several places). -/
theorem GW.join {x y : Code} {s : St} {o : Exit → St → Prop} (h1 : GW P N cx x o s) (h2 : ∀ ex s', o ex s' → Ethen (GW P N cx y Q) Q ex s') : GW P N cx (.seq x y) Q s :=
  GW.seq (h1.mono h2)
end

/-! ### What a value that comes in keeps -/
def okI (n : Int) : Prop := -9223372036854775808 ≤ n ∧ n ≤ 9223372036854775807
def okS (s : ByteArray) : Prop := s.size ≤ 9223372036854775807
def okL {α : Type} (ok : α → Prop) (l : List α) : Prop := l.length ≤ 9223372036854775807 ∧ ∀ x ∈ l, ok x

/-! ### Encodings -/

class Enc (α : Type) where
  sz : Nat
  cells : α → List G
  len : ∀ a, (cells a).length = sz
  pos : 0 < sz
  one : ∀ a g, g ∈ cells a → g.one = true

def encs {α : Type} [Enc α] (l : List α) : List G := l.flatMap Enc.cells

instance : Enc Int := ⟨1, fun n => [.val (.int .i64 n)], fun _ => rfl, by decide, fun a g h => by simp at h; subst h; rfl⟩
instance : Enc Bool := ⟨1, fun n => [.val (.bool n)], fun _ => rfl, by decide, fun a g h => by simp at h; subst h; rfl⟩
instance : Enc ByteArray := ⟨1, fun n => [.val (.string n)], fun _ => rfl, by decide, fun a g h => by simp at h; subst h; rfl⟩
instance {α : Type} [Enc α] : Enc (List α) := ⟨1, fun l => [.sl l.length (encs l)], fun _ => rfl, by decide, fun a g h => by simp at h; subst h; rfl⟩

section
variable {α : Type} [Enc α]

theorem encs_length (l : List α) : (encs l).length = l.length * Enc.sz α := by
  unfold encs
  induction l with
  | nil => simp
  | cons x r ih => rw [List.flatMap_cons, List.length_append, ih, Enc.len, List.length_cons, Nat.add_mul]; omega
theorem encs_one (l : List α) : ∀ g, g ∈ encs l → g.one = true := by
  intro g hg
  obtain ⟨a, _, h⟩ := List.mem_flatMap.1 hg
  exact Enc.one a g h
theorem encs_get {l : List α} {i : Nat} {x : α} (h : l[i]? = some x) {j : Nat} (hj : j < Enc.sz α) : (encs l)[i * Enc.sz α + j]? = (Enc.cells x)[j]? := by
  unfold encs
  rw [flatMap_get Enc.cells (Enc.sz α) Enc.pos l (fun a _ => Enc.len a)]
  have h1 : (i * Enc.sz α + j) / Enc.sz α = i := by
    rw [Nat.mul_comm, Nat.mul_add_div Enc.pos, Nat.div_eq_of_lt hj]; rfl
  have h2 : (i * Enc.sz α + j) % Enc.sz α = j := by
    rw [Nat.mul_comm, Nat.mul_add_mod, Nat.mod_eq_of_lt hj]
  rw [h1, h2, h]
  rfl
theorem encs_drop_get {l : List α} {i : Nat} {x : α} (h : l[i]? = some x) {j : Nat} (hj : j < Enc.sz α) : ((encs l).drop (i * Enc.sz α))[j]? = (Enc.cells x)[j]? := by
  rw [List.getElem?_drop]; exact encs_get h hj
theorem encs_append (l m : List α) : encs (l ++ m) = encs l ++ encs m := by simp [encs]
theorem encs_nil : encs ([] : List α) = [] := rfl
theorem encs_cons (x : α) (l : List α) : encs (x :: l) = Enc.cells x ++ encs l := rfl
theorem encs_take_full (l : List α) : (encs l).take (l.length * Enc.sz α) = encs l := List.take_of_length_le (by rw [encs_length]; exact Nat.le_refl _)
theorem encs_take (l : List α) (n : Nat) : (encs l).take (n * Enc.sz α) = encs (l.take n) := by
  unfold encs
  induction l generalizing n with
  | nil => simp
  | cons x r ih =>
    cases n with
    | zero => simp
    | succ n =>
      rw [List.take_succ_cons, List.flatMap_cons, List.flatMap_cons, List.take_append, Enc.len, ← ih n]
      have h1 : (n + 1) * Enc.sz α - Enc.sz α = n * Enc.sz α := by rw [Nat.add_mul]; omega
      rw [h1, List.take_of_length_le (by rw [Enc.len, Nat.add_mul]; omega)]
theorem encs_drop (l : List α) (n : Nat) : (encs l).drop (n * Enc.sz α) = encs (l.drop n) := by
  unfold encs
  induction l generalizing n with
  | nil => simp
  | cons x r ih =>
    cases n with
    | zero => simp
    | succ n =>
      rw [List.drop_succ_cons, List.flatMap_cons, List.drop_append, Enc.len, ← ih n]
      have h1 : (n + 1) * Enc.sz α - Enc.sz α = n * Enc.sz α := by rw [Nat.add_mul]; omega
      rw [h1, List.drop_of_length_le (by rw [Enc.len, Nat.add_mul]; omega), List.nil_append]
theorem encs_replicate (n : Nat) (x : α) (g : G) (h : Enc.cells x = [g]) : encs (List.replicate n x) = List.replicate n g := by
  unfold encs
  induction n with
  | zero => rfl
  | succ n ih => rw [List.replicate_succ, List.flatMap_cons, ih, h, List.replicate_succ]; rfl
theorem encs_set {l : List α} {i : Nat} {x : α} {g : G} (hx : Enc.cells x = [g]) (h1 : Enc.sz α = 1) : (encs l).set (0 + i * 1) g = encs (l.set i x) := by
  rw [Nat.zero_add, Nat.mul_one]
  unfold encs
  induction l generalizing i with
  | nil => rfl
  | cons y r ih =>
    obtain ⟨z, hz⟩ := List.length_eq_one_iff.1 ((Enc.len y).trans h1)
    cases i with
    | zero => simp [hz, hx]
    | succ i => simp only [List.set_cons_succ, List.flatMap_cons, hz, List.cons_append, List.nil_append, ih]

end
end Go.AM
