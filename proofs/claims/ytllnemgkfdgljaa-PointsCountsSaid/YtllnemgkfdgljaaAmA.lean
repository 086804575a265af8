/-
  AM, part A: a heap-abstracted machine: values, readings, states, the relation to the model's world. Over any program.
-/
import Derived.WalkKit
set_option linter.unusedSectionVars false
set_option linter.unusedSimpArgs false
set_option linter.unusedVariables false
namespace Go.AM

/-- What is known of a value. -/
inductive G where
  | val (v : Value)
  | sl (n : Nat) (cells : List G)
  | ptr (cells : List G)
  | agg (cells : List G)
  | tup (vs : List G)
  | loc (h off : Nat)
  | osl (h sz off n : Nat)
  | clo (f : FuncId) (caps : List G)
  | yld (h : Nat)
  | fr (g : G)
  | any
  deriving Inhabited

/-- What a loop over a function runs in a round: whose it is, how many slots, of which slots the block's cells tell, the slots for what is yielded, the code; and how it was left, if it was. -/
structure Lp where
  fn : FuncId
  N : Nat
  slots : List Nat
  ps : Array Tmp
  assign : Code
  body : Code
  pend : Option Code

/-- An owned block. 'pure': its cells name no handle; 'mine': this call has made it; 'fresh' (of a pure one): its cells lead to nothing older than the call; 'lp': the block is not memory but a loop over a function; 'cells' are then the slots of its frame. -/
structure Blk where
  ety : TypeId
  pure : Bool
  mine : Bool
  fresh : Bool
  sz : Nat
  cells : List G
  lp : Option Lp

/-- 'df': the functions whose calls are deferred, the last one first. -/
structure St where
  fr : List (Nat × G)
  st : List (Nat × Blk)
  df : List G

def get : List (Nat × G) → Nat → Option G
  | [], _ => none
  | (k, g) :: r, t => bif Nat.beq k t then some g else get r t
def sget : List (Nat × Blk) → Nat → Option Blk
  | [], _ => none
  | (k, g) :: r, t => bif Nat.beq k t then some g else sget r t
def sset : List (Nat × Blk) → Nat → Blk → List (Nat × Blk)
  | [], _, _ => []
  | (k, g) :: r, t, b => bif Nat.beq k t then (k, b) :: r else (k, g) :: sset r t b
def sdel : List (Nat × Blk) → Nat → List (Nat × Blk)
  | [], _ => []
  | (k, g) :: r, t => bif Nat.beq k t then sdel r t else (k, g) :: sdel r t

theorem sget_sset_same {st : List (Nat × Blk)} {h : Nat} {b k : Blk} (hb : sget st h = some k) : sget (sset st h b) h = some b := by
  induction st with
  | nil => cases hb
  | cons x r ih =>
    obtain ⟨y, g⟩ := x
    simp only [sget, sset] at hb ⊢
    cases hy : Nat.beq y h with
    | true => simp [sget, hy]
    | false => simp only [hy, cond_false] at hb ⊢; simp only [sget, hy, cond_false]; exact ih hb
theorem sget_sset_other {st : List (Nat × Blk)} {h h' : Nat} {b : Blk} (hne : h' ≠ h) : sget (sset st h b) h' = sget st h' := by
  induction st with
  | nil => rfl
  | cons x r ih =>
    obtain ⟨y, g⟩ := x
    simp only [sget, sset]
    cases hy : Nat.beq y h with
    | true =>
      have : y = h := Nat.eq_of_beq_eq_true hy
      subst this
      have h2 : Nat.beq y h' = false := by
        cases h3 : Nat.beq y h' with
        | false => rfl
        | true => exact absurd (Nat.eq_of_beq_eq_true h3).symm hne
      simp [sget, h2]
    | false => simp only [cond_false, sget, ih]
theorem sget_sset_iff {st : List (Nat × Blk)} {h h' : Nat} {b k k' : Blk} (hk : sget st h = some k) (hs : sget (sset st h b) h' = some k') :
    (h' = h ∧ k' = b) ∨ (h' ≠ h ∧ sget st h' = some k') := by
  by_cases e : h' = h
  · subst e; rw [sget_sset_same hk] at hs; exact .inl ⟨rfl, (Option.some.inj hs).symm⟩
  · rw [sget_sset_other e] at hs; exact .inr ⟨e, hs⟩
theorem sget_sdel {st : List (Nat × Blk)} {h h' : Nat} {k : Blk} (hs : sget (sdel st h) h' = some k) : h' ≠ h ∧ sget st h' = some k := by
  induction st with
  | nil => cases hs
  | cons x r ih =>
    obtain ⟨y, g⟩ := x
    simp only [sdel] at hs
    cases hy : Nat.beq y h with
    | true =>
      simp only [hy, cond_true] at hs
      obtain ⟨h1, h2⟩ := ih hs
      refine ⟨h1, ?_⟩
      have : y = h := Nat.eq_of_beq_eq_true hy
      subst this
      have h3 : Nat.beq y h' = false := by
        cases h3 : Nat.beq y h' with
        | false => rfl
        | true => exact absurd (Nat.eq_of_beq_eq_true h3).symm h1
      simp [sget, h3, h2]
    | false =>
      simp only [hy, cond_false, sget] at hs ⊢
      cases h3 : Nat.beq y h' with
      | true =>
        simp only [h3, cond_true] at hs ⊢
        refine ⟨?_, hs⟩
        intro e
        have : y = h' := Nat.eq_of_beq_eq_true h3
        subst this; subst e
        rw [Nat.beq_refl] at hy; cases hy
      | false =>
        simp only [h3, cond_false] at hs ⊢
        exact ih hs

/-- Blocks by handle: the block's number and how many cells it has; none: a nil slice. -/
abbrev Mu := Nat → Option (Nat × Nat)

/-- A reading that leans on no block of 'O'. -/
inductive RepI (O : Nat → Prop) (w : World) : G → Value → Prop
  | any (v : Value) : RepI O w .any v
  | val (v : Value) : RepI O w (.val v) v
  | nil : RepI O w (.sl 0 []) (.slice none 0 0)
  | emp (a : Addr) (cap : Nat) : RepI O w (.sl 0 []) (.slice (some a) 0 cap)
  | sl (n : Nat) (cells : List G) (b off cap : Nat) (us : Nat → Value) (hn : n ≤ cap) (hO : ¬ O b) (hb : b < w.heap.size)
      (hc : ∀ j, j < cells.length → w.cell? ⟨b, off + j, none⟩ = some (us j)) (hr : ∀ (j : Nat) (g : G), cells[j]? = some g → RepI O w g (us j)) :
      RepI O w (.sl n cells) (.slice (some ⟨b, off, none⟩) n cap)
  | ptr (cells : List G) (b off : Nat) (us : Nat → Value) (hO : ¬ O b) (hb : b < w.heap.size)
      (hc : ∀ j, j < cells.length → w.cell? ⟨b, off + j, none⟩ = some (us j)) (hr : ∀ (j : Nat) (g : G), cells[j]? = some g → RepI O w g (us j)) :
      RepI O w (.ptr cells) (.pointer (some ⟨b, off, none⟩))
  | agg (cells : List G) (us : List Value) (hl : us.length = cells.length) (hr : ∀ (j : Nat) (g : G) (v : Value), cells[j]? = some g → us[j]? = some v → RepI O w g v) :
      RepI O w (.agg cells) (.agg us.toArray)

/-- What a step may do to memory: the blocks outside 'O' stay. -/
structure Kept (O : Nat → Prop) (w w' : World) : Prop where
  size : w.heap.size ≤ w'.heap.size
  block : ∀ b, b < w.heap.size → ¬ O b → w'.heap[b]? = w.heap[b]?

theorem Kept.refl (O : Nat → Prop) (w : World) : Kept O w w := ⟨Nat.le_refl _, fun _ _ _ => rfl⟩

theorem RepI.mono {O O' : Nat → Prop} {w w' : World} {g : G} {v : Value} (h : RepI O w g v)
    (hk : Kept O w w') (hO : ∀ b, b < w.heap.size → ¬ O b → ¬ O' b) : RepI O' w' g v := by
  induction h with
  | any v => exact .any v
  | val v => exact .val v
  | nil => exact .nil
  | emp a cap => exact .emp a cap
  | sl n cells b off cap us hn hO1 hb1 hc hr ih =>
    exact .sl n cells b off cap us hn (hO b hb1 hO1) (Nat.lt_of_lt_of_le hb1 hk.size)
      (fun j hj => by rw [World.cell?_of_block (w := w) (hk.block b hb1 hO1)]; exact hc j hj) ih
  | ptr cells b off us hO1 hb1 hc hr ih =>
    exact .ptr cells b off us (hO b hb1 hO1) (Nat.lt_of_lt_of_le hb1 hk.size)
      (fun j hj => by rw [World.cell?_of_block (w := w) (hk.block b hb1 hO1)]; exact hc j hj) ih
  | agg cells us hl hr ih => exact .agg cells us hl ih

/-- 'O', and all that is older than 'base'. -/
def Old (O : Nat → Prop) (base : Nat) : Nat → Prop := fun b => b < base ∨ O b

/-- A reading in a function's frame: immutable memory, or owned blocks. -/
inductive RepV (O : Nat → Prop) (base : Nat) (w : World) (μ : Mu) : G → Value → Prop
  | imm {g : G} {v : Value} (h : RepI O w g v) : RepV O base w μ g v
  | fr {g : G} {v : Value} (h : RepI (Old O base) w g v) : RepV O base w μ (.fr g) v
  | loc (h off b m : Nat) (hm : μ h = some (b, m)) : RepV O base w μ (.loc h off) (.pointer (some ⟨b, off, none⟩))
  | onil (h sz : Nat) (hm : μ h = none) : RepV O base w μ (.osl h sz 0 0) (.slice none 0 0)
  | osl (h sz off n b m cap : Nat) (hm : μ h = some (b, m)) (hn : n ≤ cap) (hc : off + cap * sz = m) : RepV O base w μ (.osl h sz off n) (.slice (some ⟨b, off, none⟩) n cap)
  | ozero (h sz off0 b m : Nat) (hm : μ h = some (b, m)) (hpos : 0 < m) : RepV O base w μ (.osl h sz m 0) (.slice (some ⟨b, off0, none⟩) 0 0)
  | agg (cells : List G) (us : List Value) (hl : us.length = cells.length) (hr : ∀ (j : Nat) (g : G) (v : Value), cells[j]? = some g → us[j]? = some v → RepV O base w μ g v) :
      RepV O base w μ (.agg cells) (.agg us.toArray)
  | tup (cells : List G) (us : List Value) (hl : us.length = cells.length) (hr : ∀ (j : Nat) (g : G) (v : Value), cells[j]? = some g → us[j]? = some v → RepV O base w μ g v) :
      RepV O base w μ (.tup cells) (.tuple us.toArray)
  | clo (f : FuncId) (caps : List G) (us : List Value) (hl : us.length = caps.length) (hr : ∀ (j : Nat) (g : G) (v : Value), caps[j]? = some g → us[j]? = some v → RepV O base w μ g v) :
      RepV O base w μ (.clo f caps) (.func (.func f) #[] us.toArray)
  | yld (h b m : Nat) (hm : μ h = some (b, m)) : RepV O base w μ (.yld h) (.func (.yield b) #[] #[])

theorem RepI.old {O : Nat → Prop} {base : Nat} {w : World} {g : G} {v : Value} (h : RepI (Old O base) w g v) : RepI O w g v :=
  h.mono (Kept.refl _ _) (fun _ _ hn ho => hn (.inr ho))

theorem RepV.mono {O O' : Nat → Prop} {base base' : Nat} {w w' : World} {μ : Mu} {g : G} {v : Value} (h : RepV O base w μ g v)
    (hk : Kept O w w') (hO : ∀ b, b < w.heap.size → ¬ O b → ¬ O' b) (hb : base' ≤ base) : RepV O' base' w' μ g v := by
  induction h with
  | imm h => exact .imm (h.mono hk hO)
  | fr h =>
    refine .fr (h.mono ⟨hk.size, fun b hb hn => hk.block b hb fun ho => hn (.inr ho)⟩ ?_)
    intro b hb1 hn ho
    rcases ho with ho | ho
    · exact hn (.inl (by omega))
    · exact hO b hb1 (fun h => hn (.inr h)) ho
  | loc h off b m hm => exact .loc h off b m hm
  | onil h sz hm => exact .onil h sz hm
  | osl h sz off n b m cap hm hn hc => exact .osl h sz off n b m cap hm hn hc
  | ozero h sz off0 b m hm hpos => exact .ozero h sz off0 b m hm hpos
  | agg cells us hl hr ih => exact .agg cells us hl ih
  | tup cells us hl hr ih => exact .tup cells us hl ih
  | clo f caps us hl hr ih => exact .clo f caps us hl ih
  | yld h b m hm => exact .yld h b m hm

/-- Does it name the handle? -/
def G.hasH (k : Nat) : G → Bool
  | .loc h _ => Nat.beq h k
  | .osl h _ _ _ => Nat.beq h k
  | .agg cs => go cs
  | .tup cs => go cs
  | .clo _ cs => go cs
  | .yld h => Nat.beq h k
  | _ => false
where go : List G → Bool
  | [] => false
  | g :: r => g.hasH k || go r

theorem G.hasH_go {k : Nat} {cs : List G} {g : G} (hg : g ∈ cs) (h : g.hasH k = true) : G.hasH.go k cs = true := by
  induction cs with
  | nil => cases hg
  | cons x r ih =>
    simp only [G.hasH.go, Bool.or_eq_true]
    cases hg with
    | head => exact .inl h
    | tail _ hm => exact .inr (ih hm)

theorem RepV.remap {O : Nat → Prop} {base : Nat} {w : World} {μ μ' : Mu} {g : G} {v : Value} (h : RepV O base w μ g v)
    (hμ : ∀ k, g.hasH k = true → μ' k = μ k) : RepV O base w μ' g v := by
  induction h with
  | imm h => exact .imm h
  | fr h => exact .fr h
  | loc h off b m hm => exact .loc h off b m (by rw [hμ h (by simp [G.hasH])]; exact hm)
  | onil h sz hm => exact .onil h sz (by rw [hμ h (by simp [G.hasH])]; exact hm)
  | osl h sz off n b m cap hm hn hc => exact .osl h sz off n b m cap (by rw [hμ h (by simp [G.hasH])]; exact hm) hn hc
  | ozero h sz off0 b m hm hpos => exact .ozero h sz off0 b m (by rw [hμ h (by simp [G.hasH])]; exact hm) hpos
  | agg cells us hl hr ih =>
    exact .agg cells us hl fun j g v hg hv => ih j g v hg hv fun k hk => hμ k (by
      simp only [G.hasH]; exact G.hasH_go (List.mem_of_getElem? hg) hk)
  | tup cells us hl hr ih =>
    exact .tup cells us hl fun j g v hg hv => ih j g v hg hv fun k hk => hμ k (by
      simp only [G.hasH]; exact G.hasH_go (List.mem_of_getElem? hg) hk)
  | clo f cells us hl hr ih =>
    exact .clo f cells us hl fun j g v hg hv => ih j g v hg hv fun k hk => hμ k (by
      simp only [G.hasH]; exact G.hasH_go (List.mem_of_getElem? hg) hk)
  | yld h b m hm => exact .yld h b m (by rw [hμ h (by simp [G.hasH])]; exact hm)

/-- Without the mark of what is fresh. -/
def G.bare : G → G
  | .fr g => g
  | g => g

theorem RepV.bare {O : Nat → Prop} {base : Nat} {w : World} {μ : Mu} {g : G} {v : Value} (h : RepV O base w μ g v) : RepV O base w μ g.bare v := by
  cases g with
  | fr g => cases h with
    | imm h => cases h
    | fr h => exact .imm h.old
  | _ => exact h

end Go.AM
