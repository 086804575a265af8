/-
  AM, part B: the relation of a state to a frame and a world; judgments; the rules of control.
-/
import Derived.Test.YtllnemgkfdgljaaAmA
import Derived.Deep.LoopGhost
import Derived.TacticsIn
import Derived.OrdersHeld
import Derived.OrdersIn
import Derived.RangeFuncRecord
set_option linter.unusedSectionVars false
set_option linter.unusedSimpArgs false
set_option linter.unusedVariables false
namespace Go.AM

/-- The setting of one call: 'X': blocks of the caller that this call may not lean on; 'A': blocks that were handed in to be written. -/
structure Cx where
  X : Nat → Prop
  A : Nat → Prop
  base : Nat
  w0 : World
  ro : Option Nat
  pin : Mu

/-- Handles from 1000 on: blocks that were handed in: they stay the same blocks. -/
def pinned (h : Nat) : Bool := Nat.ble 1000 h

def Own (st : List (Nat × Blk)) (μ : Mu) (b : Nat) : Prop := ∃ h k m, sget st h = some k ∧ μ h = some (b, m)
def Cx.O (cx : Cx) (st : List (Nat × Blk)) (μ : Mu) : Nat → Prop := fun b => cx.X b ∨ Own st μ b

/-- A cell of an owned block. -/
def RepC (O : Nat → Prop) (base : Nat) (w : World) (μ : Mu) (k : Blk) (g : G) (v : Value) : Prop :=
  match k.pure with
  | true => RepI (bif k.fresh then Old O base else O) w g v
  | false => RepV O base w μ g v

theorem RepC.mono {O O' : Nat → Prop} {base : Nat} {w w' : World} {μ : Mu} {k : Blk} {g : G} {v : Value} (h : RepC O base w μ k g v)
    (hk : Kept O w w') (hO : ∀ b, b < w.heap.size → ¬ O b → ¬ O' b) : RepC O' base w' μ k g v := by
  unfold RepC at *
  cases hp : k.pure with
  | false => rw [hp] at h; exact RepV.mono h hk hO (Nat.le_refl _)
  | true =>
    rw [hp] at h
    cases hf : k.fresh with
    | false => rw [hf] at h; exact RepI.mono h hk hO
    | true =>
      rw [hf] at h
      refine RepI.mono h ⟨hk.size, fun b hb hn => hk.block b hb fun ho => hn (.inr ho)⟩ ?_
      intro b hb1 hn ho
      rcases ho with ho | ho
      · exact hn (.inl ho)
      · exact hO b hb1 (fun h => hn (.inr h)) ho

/-- What a load of a cell gives. -/
def Blk.out (k : Blk) : G → G
  | .val v => .val v
  | g => bif k.pure && k.fresh then .fr g else g

theorem RepC.out {O : Nat → Prop} {base : Nat} {w : World} {μ : Mu} {k : Blk} {g : G} {v : Value} (h : RepC O base w μ k g v) : RepV O base w μ (k.out g) v := by
  have key : RepV O base w μ (bif k.pure && k.fresh then .fr g else g) v := by
    unfold RepC at h
    cases hp : k.pure with
    | false => rw [hp] at h; exact h
    | true =>
      rw [hp] at h
      cases hf : k.fresh with
      | false => rw [hf] at h; exact .imm h
      | true => rw [hf] at h; exact .fr h
  cases g with
  | val u =>
    show RepV O base w μ (.val u) v
    unfold RepC at h
    cases hp : k.pure with
    | false => rw [hp] at h; exact h
    | true => rw [hp] at h; dsimp only at h; cases h; exact .imm (.val _)
  | _ => exact key

/-- A loop over a function, as it lies. -/
def RelLp (O : Nat → Prop) (base : Nat) (w : World) (μ : Mu) (k : Blk) (lp : Lp) (b : Nat) : Prop :=
  ∃ (D : Nat) (vs : Array Value), w.heap[b]? = some (.loop { state := if lp.pend.isNone then .ready else .done, pending := lp.pend, fn := lp.fn, tmps := vs, params := lp.ps, assign := lp.assign, body := lp.body, defers := D }) ∧
    vs.size = lp.N ∧ k.mine = false ∧ k.pure = false ∧ ∀ (j t : Nat) (g : G), lp.slots[j]? = some t → k.cells[j]? = some g → ∃ v, vs[t]? = some v ∧ RepV O base w μ g v

def RelBlk (O : Nat → Prop) (base : Nat) (w : World) (μ : Mu) (k : Blk) : Option (Nat × Nat) → Prop
  | none => k.cells = [] ∧ k.lp = none
  | some (b, m) => match k.lp with
    | none => ∃ cs : Array Value, w.heap[b]? = some (.cells cs k.ety (0, 0)) ∧ cs.size = m ∧ k.cells.length ≤ m ∧ (k.mine = true → base ≤ b) ∧ (k.sz ≠ 0 → m ≤ maxLen * k.sz) ∧
      ∀ (j : Nat) (g : G), k.cells[j]? = some g → ∃ v, cs[j]? = some v ∧ RepC O base w μ k g v
    | some lp => RelLp O base w μ k lp b

theorem RelBlk.cells {O : Nat → Prop} {base : Nat} {w : World} {μ : Mu} {k : Blk} {b m : Nat} (h : RelBlk O base w μ k (some (b, m))) (hl : k.lp = none) :
    ∃ cs : Array Value, w.heap[b]? = some (.cells cs k.ety (0, 0)) ∧ cs.size = m ∧ k.cells.length ≤ m ∧ (k.mine = true → base ≤ b) ∧ (k.sz ≠ 0 → m ≤ maxLen * k.sz) ∧
      ∀ (j : Nat) (g : G), k.cells[j]? = some g → ∃ v, cs[j]? = some v ∧ RepC O base w μ k g v := by
  unfold RelBlk at h
  rw [hl] at h
  exact h

theorem RelBlk.mk {O : Nat → Prop} {base : Nat} {w : World} {μ : Mu} {k : Blk} {b m : Nat} (hl : k.lp = none)
    (h : ∃ cs : Array Value, w.heap[b]? = some (.cells cs k.ety (0, 0)) ∧ cs.size = m ∧ k.cells.length ≤ m ∧ (k.mine = true → base ≤ b) ∧ (k.sz ≠ 0 → m ≤ maxLen * k.sz) ∧
      ∀ (j : Nat) (g : G), k.cells[j]? = some g → ∃ v, cs[j]? = some v ∧ RepC O base w μ k g v) : RelBlk O base w μ k (some (b, m)) := by
  unfold RelBlk
  rw [hl]
  exact h

theorem RelBlk.heap {O : Nat → Prop} {base : Nat} {w : World} {μ : Mu} {k : Blk} {b m : Nat} (h : RelBlk O base w μ k (some (b, m))) :
    (∃ o, w.heap[b]? = some o) ∧ (k.mine = true → base ≤ b) := by
  cases hl : k.lp with
  | none => obtain ⟨cs, h1, _, _, h2, _⟩ := h.cells hl; exact ⟨⟨_, h1⟩, h2⟩
  | some lp =>
    unfold RelBlk at h
    rw [hl] at h
    obtain ⟨D, vs, h1, _, h2, _⟩ := h
    exact ⟨⟨_, h1⟩, fun h => by rw [h2] at h; cases h⟩

/-- The same block in a later world, told by the same handles. -/
theorem RelBlk.mono {O O' : Nat → Prop} {base : Nat} {w w' : World} {μ : Mu} {k : Blk} {x : Option (Nat × Nat)} (h : RelBlk O base w μ k x)
    (hb : ∀ b m, x = some (b, m) → w'.heap[b]? = w.heap[b]?) (hk : Kept O w w') (hO : ∀ b, b < w.heap.size → ¬ O b → ¬ O' b) : RelBlk O' base w' μ k x := by
  cases x with
  | none => exact h
  | some bm =>
    obtain ⟨b, m⟩ := bm
    have hb := hb b m rfl
    cases hl : k.lp with
    | none =>
      obtain ⟨cs, h2, h3, h4, h6, h8, h5⟩ := h.cells hl
      exact .mk hl ⟨cs, hb.trans h2, h3, h4, h6, h8, fun j g hg => let ⟨v, hv, hr⟩ := h5 j g hg; ⟨v, hv, hr.mono hk hO⟩⟩
    | some lp =>
      unfold RelBlk at h ⊢
      rw [hl] at h ⊢
      obtain ⟨D, vs, h1, h2, h3, h4, h5⟩ := h
      exact ⟨D, vs, hb.trans h1, h2, h3, h4, fun j t g ht hg => let ⟨v, hv, hr⟩ := h5 j t g ht hg; ⟨v, hv, hr.mono hk hO (Nat.le_refl _)⟩⟩

/-- The same block, its handles told anew. -/
theorem RelBlk.remap {O : Nat → Prop} {base : Nat} {w : World} {μ μ' : Mu} {k : Blk} {x : Option (Nat × Nat)} (h : RelBlk O base w μ k x)
    (hμ : k.pure = false → ∀ g, g ∈ k.cells → ∀ y, g.hasH y = true → μ' y = μ y) : RelBlk O base w μ' k x := by
  cases x with
  | none => exact h
  | some bm =>
    obtain ⟨b, m⟩ := bm
    cases hl : k.lp with
    | none =>
      obtain ⟨cs, h2, h3, h4, h6, h8, h5⟩ := h.cells hl
      refine .mk hl ⟨cs, h2, h3, h4, h6, h8, fun j g hg => ?_⟩
      obtain ⟨v, hv, hr⟩ := h5 j g hg
      refine ⟨v, hv, ?_⟩
      unfold RepC at hr ⊢
      cases hp : k.pure with
      | true => rw [hp] at hr; exact hr
      | false => rw [hp] at hr; exact RepV.remap hr (hμ hp g (List.mem_of_getElem? hg))
    | some lp =>
      unfold RelBlk at h ⊢
      rw [hl] at h ⊢
      obtain ⟨D, vs, h1, h2, h3, h4, h5⟩ := h
      exact ⟨D, vs, h1, h2, h3, h4, fun j t g ht hg => let ⟨v, hv, hr⟩ := h5 j t g ht hg; ⟨v, hv, hr.remap (hμ h4 g (List.mem_of_getElem? hg))⟩⟩

structure RelSt (cx : Cx) (μ : Mu) (st : List (Nat × Blk)) (w : World) : Prop where
  blk : ∀ h k, sget st h = some k → RelBlk (cx.O st μ) cx.base w μ k (μ h)
  inj : ∀ h h' k k' b m m', sget st h = some k → sget st h' = some k' → μ h = some (b, m) → μ h' = some (b, m') → h = h'
  out : ∀ h k b m, sget st h = some k → μ h = some (b, m) → ¬ cx.X b ∧ (cx.base ≤ b ∨ cx.A b)
  pin : ∀ h k, sget st h = some k → pinned h = true → μ h = cx.pin h
  xlt : ∀ b, cx.X b → b < cx.base
  hb : cx.base ≤ w.heap.size
  os : w.os = cx.w0.os
  tape : w.tape = cx.w0.tape
  output : w.output = cx.w0.output
  keep : ∀ b, b < cx.base → ¬ cx.A b → w.heap[b]? = cx.w0.heap[b]?

/-- Deferred calls: of functions that are told, and the marks of loops over functions, which are not. -/
inductive DfRel (O : Nat → Prop) (base : Nat) (w : World) (μ : Mu) : List Deferred → List G → Prop
  | nil : DfRel O base w μ [] []
  | mark {D : Nat} {ds : List Deferred} {gs : List G} (h1 : ¬ O D) (h2 : base ≤ D) (h3 : D < w.heap.size) (h4 : w.heap[D]? = some (.deferred (some []))) (h5 : ∀ d ∈ ds, d.target ≠ .collected D) (h6 : DfRel O base w μ ds gs) :
      DfRel O base w μ ({ target := .collected D, args := #[] } :: ds) gs
  | clo {f : FuncId} {cs : List G} {us : Array Value} {ds : List Deferred} {gs : List G} (h1 : RepV O base w μ (.clo f cs) (.func (.func f) #[] us)) (h2 : DfRel O base w μ ds gs) :
      DfRel O base w μ ({ target := .fn (.func f) us, args := #[] } :: ds) (.clo f cs :: gs)

theorem DfRel.mono {O O' : Nat → Prop} {base : Nat} {w w' : World} {μ : Mu} {ds : List Deferred} {gs : List G} (h : DfRel O base w μ ds gs)
    (hk : Kept O w w') (hO : ∀ b, b < w.heap.size → ¬ O b → ¬ O' b) : DfRel O' base w' μ ds gs := by
  induction h with
  | nil => exact .nil
  | mark h1 h2 h3 h4 h5 h6 ih => exact .mark (hO _ h3 h1) h2 (Nat.lt_of_lt_of_le h3 hk.size) ((hk.block _ h3 h1).trans h4) h5 ih
  | clo h1 h2 ih => exact .clo (h1.mono hk hO (Nat.le_refl _)) ih

def dfNo (h : Nat) : List G → Bool
  | [] => true
  | g :: r => !(g.hasH h) && dfNo h r
theorem dfNo_mem {h : Nat} {gs : List G} (hf : dfNo h gs = true) {g : G} (hg : g ∈ gs) : g.hasH h = false := by
  induction gs with
  | nil => cases hg
  | cons x r ih =>
    simp only [dfNo, Bool.and_eq_true, Bool.not_eq_true'] at hf
    cases hg with
    | head => exact hf.1
    | tail _ hm => exact ih hf.2 hm

theorem DfRel.remap {O : Nat → Prop} {base : Nat} {w : World} {μ μ' : Mu} {ds : List Deferred} {gs : List G} (h : DfRel O base w μ ds gs)
    (hμ : ∀ g, g ∈ gs → ∀ y, g.hasH y = true → μ' y = μ y) : DfRel O base w μ' ds gs := by
  induction h with
  | nil => exact .nil
  | mark h1 h2 h3 h4 h5 h6 ih => exact .mark h1 h2 h3 h4 h5 (ih hμ)
  | clo h1 h2 ih => exact .clo (h1.remap (hμ _ List.mem_cons_self)) (ih fun g hg => hμ g (List.mem_cons_of_mem _ hg))

structure Rel (N : Nat) (cx : Cx) (μ : Mu) (s : St) (a : Act) (w : World) : Prop where
  st : RelSt cx μ s.st w
  nd : DfRel (cx.O s.st μ) cx.base w μ a.defers s.df
  sz : a.tmps.size = N
  fr : ∀ t g, get s.fr t = some g → ∃ v, a.tmps[t]? = some v ∧ RepV (cx.O s.st μ) cx.base w μ g v

def lift (N : Nat) (cx : Cx) (Q : Exit → St → Prop) : Exit → Act → World → Prop
  | .outgrown, _, _ => False
  | .panic c, a, w => ∃ μ s, RelSt cx μ s.st w ∧ DfRel (cx.O s.st μ) cx.base w μ a.defers s.df ∧ s.fr = [] ∧ Q (.panic c) s
  | e, a, w => ∃ μ s, Rel N cx μ s a w ∧ Q e s

/-- All functions, any depth; in a round of the loop 'ro', or in none. -/
def FF (ro : Option Nat) : Fence := { Fence.wide with round := ro }
theorem FF.roomy (ro : Option Nat) (n : Nat) : (FF ro).room n := fun _ h => by cases h

def GW (P : Program) (N : Nat) (cx : Cx) (c : Code) (Q : Exit → St → Prop) (s : St) : Prop := ∀ μ a w, Rel N cx μ s a w → c.wpIn (FF cx.ro) 0 P (lift N cx Q) a w

def Ethen (next : St → Prop) (Q : Exit → St → Prop) : Exit → St → Prop
  | .normal, s => next s
  | e, s => Q e s

def Eblock (id : Nat) (Q : Exit → St → Prop) : Exit → St → Prop
  | .exit id', s => if id' = id then Q .normal s else Q (.exit id') s
  | e, s => Q e s

/-- Of 's' no more is said than 's'' says. -/
def SubFr (fr : List (Nat × G)) : List (Nat × G) → Prop
  | [] => True
  | (t, g) :: r => get fr t = some g ∧ SubFr fr r
def SubSt (st : List (Nat × Blk)) : List (Nat × Blk) → Prop
  | [] => True
  | (t, g) :: r => sget st t = some g ∧ SubSt st r
def Sub (s s' : St) : Prop := SubFr s.fr s'.fr ∧ SubSt s.st s'.st ∧ s.df = s'.df

theorem SubFr.get {fr fr' : List (Nat × G)} (h : SubFr fr fr') {t : Nat} {g : G} (hg : get fr' t = some g) : get fr t = some g := by
  induction fr' with
  | nil => cases hg
  | cons x r ih =>
    obtain ⟨k, g'⟩ := x
    obtain ⟨h1, h2⟩ := h
    simp only [AM.get] at hg
    cases hk : Nat.beq k t with
    | true => rw [hk] at hg; have := Nat.eq_of_beq_eq_true hk; subst this; simp at hg; subst hg; exact h1
    | false => rw [hk] at hg; exact ih h2 hg
theorem SubSt.get {fr fr' : List (Nat × Blk)} (h : SubSt fr fr') {t : Nat} {g : Blk} (hg : sget fr' t = some g) : sget fr t = some g := by
  induction fr' with
  | nil => cases hg
  | cons x r ih =>
    obtain ⟨k, g'⟩ := x
    obtain ⟨h1, h2⟩ := h
    simp only [sget] at hg
    cases hk : Nat.beq k t with
    | true => rw [hk] at hg; have := Nat.eq_of_beq_eq_true hk; subst this; simp at hg; subst hg; exact h1
    | false => rw [hk] at hg; exact ih h2 hg

theorem Own.sub {st st' : List (Nat × Blk)} {μ : Mu} (h : SubSt st st') {b : Nat} : Own st' μ b → Own st μ b :=
  fun ⟨x, k, m, h1, h2⟩ => ⟨x, k, m, h.get h1, h2⟩

theorem RelSt.sub {cx : Cx} {μ : Mu} {st st' : List (Nat × Blk)} {w : World} (h : RelSt cx μ st w) (hs : SubSt st st') : RelSt cx μ st' w := by
  have hO : ∀ b, b < w.heap.size → ¬ cx.O st μ b → ¬ cx.O st' μ b := fun b _ hn ho => hn (ho.imp id (Own.sub hs))
  exact { blk := fun x k hk => (h.blk x k (hs.get hk)).mono (fun _ _ _ => rfl) (Kept.refl _ _) hO, inj := fun x x' k k' b m m' h1 h2 h3 h4 => h.inj x x' k k' b m m' (hs.get h1) (hs.get h2) h3 h4,
          out := fun x k b m h1 h2 => h.out x k b m (hs.get h1) h2, pin := fun x k h1 h2 => h.pin x k (hs.get h1) h2, xlt := h.xlt, hb := h.hb, os := h.os, tape := h.tape, output := h.output, keep := h.keep }

theorem Rel.sub {N : Nat} {cx : Cx} {μ : Mu} {s s' : St} {a : Act} {w : World} (h : Rel N cx μ s a w) (hs : Sub s s') : Rel N cx μ s' a w := by
  have hO : ∀ b, b < w.heap.size → ¬ cx.O s.st μ b → ¬ cx.O s'.st μ b := fun b _ hn ho => hn (ho.imp id (Own.sub hs.2.1))
  refine { st := h.st.sub hs.2.1, nd := hs.2.2 ▸ h.nd.mono (Kept.refl _ _) hO, sz := h.sz, fr := ?_ }
  intro t g hg
  obtain ⟨v, hv, hr⟩ := h.fr t g (hs.1.get hg)
  exact ⟨v, hv, hr.mono (Kept.refl _ _) hO (Nat.le_refl _)⟩

section
variable {P : Program} {N : Nat} {cx : Cx} {Q : Exit → St → Prop} {s : St}

theorem lift_mono {Q Q' : Exit → St → Prop} (h : ∀ e s, Q e s → Q' e s) {e : Exit} {a : Act} {w : World} (hl : lift N cx Q e a w) : lift N cx Q' e a w := by
  cases e <;> first | exact hl.elim | exact (let ⟨μ, s, hr, hq⟩ := hl; ⟨μ, s, hr, h _ _ hq⟩) | exact (let ⟨μ, s, h1, h2, h3, hq⟩ := hl; ⟨μ, s, h1, h2, h3, h _ _ hq⟩)

theorem GW.mono {c : Code} {Q' : Exit → St → Prop} (h : GW P N cx c Q s) (hq : ∀ e s, Q e s → Q' e s) : GW P N cx c Q' s :=
  fun μ a w hr => wpIn_mono (h μ a w hr) fun _ _ _ hl => lift_mono hq hl

theorem GW.weak {c : Code} (s' : St) (hs : Sub s s') (h : GW P N cx c Q s') : GW P N cx c Q s := fun μ a w hr => h μ a w (hr.sub hs)

theorem GW.skip (h : Q .normal s) : GW P N cx .skip Q s := fun μ _ _ hr => wpIn_skip ⟨μ, s, hr, h⟩
theorem GW.ret (h : Q .ret s) : GW P N cx .ret Q s := fun μ _ _ hr => wpIn_ret ⟨μ, s, hr, h⟩
theorem GW.exit {id : Nat} (h : Q (.exit id) s) : GW P N cx (.exit id) Q s := fun μ _ _ hr => wpIn_exit ⟨μ, s, hr, h⟩

theorem GW.seq {x y : Code} (h : GW P N cx x (Ethen (GW P N cx y Q) Q) s) : GW P N cx (.seq x y) Q s := fun μ a w hr =>
  wpIn_seq (wpIn_mono (h μ a w hr) fun e a' w' hl => by
    cases e with
    | normal => obtain ⟨μ', s', hr', hq⟩ := hl; exact hq μ' a' w' hr'
    | outgrown => exact hl.elim
    | _ => exact hl)

theorem GW.block {id : Nat} {c : Code} (h : GW P N cx c (Eblock id Q) s) : GW P N cx (.block id c) Q s := fun μ a w hr =>
  wpIn_block (wpIn_mono (h μ a w hr) fun e a' w' hl => by
    cases e with
    | exit id' =>
      obtain ⟨μ', s', hr', hq⟩ := hl
      simp only [Eblock, Exit.inBlock] at hq ⊢
      by_cases hid : id' = id
      · simp only [hid, if_true] at hq ⊢; exact ⟨μ', s', hr', hq⟩
      · simp only [hid, if_false] at hq ⊢; exact ⟨μ', s', hr', hq⟩
    | outgrown => exact hl.elim
    | _ => exact hl)

theorem Rel.val_bool {N : Nat} {cx : Cx} {μ : Mu} {s : St} {a : Act} {w : World} (h : Rel N cx μ s a w) {t : Nat} {v : Value} (hg : get s.fr t = some (.val v)) : a.eval (.tmp t) = v := by
  obtain ⟨u, hu, hr⟩ := h.fr t _ hg
  cases hr with
  | imm hr => cases hr; simp [Act.eval, hu]

theorem GW.cond {t : Nat} {x y : Code} {b : Bool} (hg : get s.fr t = some (.val (.bool b))) (h1 : b = true → GW P N cx x Q s) (h2 : b = false → GW P N cx y Q s) :
    GW P N cx (.cond (.tmp t) x y) Q s := fun μ a w hr =>
  wpIn_cond_split (hr.val_bool hg) (fun e => h1 e μ a w hr) (fun e => h2 e μ a w hr)

theorem wpIn_ghost {F : Fence} {n : Nat} {R : Exit → Act → World → Prop} {a : Act} {w : World} {c : Code} (I : Nat → Act → World → Prop) (n₀ : Nat) (h₀ : I n₀ a w)
    (round : ∀ k a w, I k a w → c.wpIn F n P (Exit.then (fun a' w' => ∃ k', k' < k ∧ I k' a' w') R) a w) : (Code.loop c).wpIn F n P R a w :=
  wpIn_loop (fun a w => ∃ k, I k a w) (fun a w => leastOf fun k => I k a w) ⟨n₀, h₀⟩ fun a w hI =>
    wpIn_mono (round _ a w (leastOf_spec hI).1) fun e a' w' hq => by
      cases e with
      | normal =>
        obtain ⟨k', hlt, hI'⟩ := hq
        exact ⟨⟨k', hI'⟩, Nat.lt_of_le_of_lt ((leastOf_spec ⟨k', hI'⟩).2 k' hI') hlt⟩
      | _ => exact hq

theorem GW.loop {σ : Type} {c : Code} (E : σ → St) (I : σ → Prop) (m : σ → Nat) (x0 : σ) (h0 : I x0)
    (hr : ∀ x, I x → GW P N cx c (Ethen (fun s => ∃ x', I x' ∧ m x' < m x ∧ Sub s (E x')) Q) (E x)) : GW P N cx (.loop c) Q (E x0) := by
  intro μ a w hrel
  refine wpIn_ghost (fun n a w => ∃ x μ, I x ∧ m x = n ∧ Rel N cx μ (E x) a w) (m x0) ⟨x0, μ, h0, rfl, hrel⟩ ?_
  rintro n a w ⟨x, μ, hI, rfl, hrel⟩
  refine wpIn_mono (hr x hI μ a w hrel) fun e a' w' hl => ?_
  cases e with
  | normal => obtain ⟨μ', s', hr', x', hI', hm, hs⟩ := hl; exact ⟨m x', hm, x', μ', hI', rfl, hr'.sub hs⟩
  | outgrown => exact hl.elim
  | _ => exact hl

/-! ### Regions -/

/-- No operation defers a call. -/
def noDefer : List Oper → Bool
  | [] => true
  | o :: r => (match o.op with | .defer _ => false | _ => true) && noDefer r
theorem noDefer_mem {l : List Oper} (h : noDefer l = true) {o : Oper} (ho : o ∈ l) (c : Call) : o.op ≠ .defer c := by
  induction l with
  | nil => cases ho
  | cons x r ih =>
    simp only [noDefer, Bool.and_eq_true] at h
    cases ho with
    | head => intro e; rw [e] at h; cases h.1
    | tail _ hm => exact ih h.2 hm

theorem callsIn_FF {ro : Option Nat} {n : Nat} {f : FuncId} {args : Array Value} {w : World} {R : Ending → World → Prop} : CallsIn (FF ro) n P f args w R ↔ Calls P f args w R := by
  cases ro with
  | none => exact callsIn_wide
  | some l => exact (callsIn_wide (n := n) (P := P) (f := f) (args := args) (w := w) (R := R))

theorem rowsIn_FF {ro : Option Nat} {n : Nat} {row : String} {args : Array Value} {w : World} {R : Value → World → Prop} (h : Rows P row args w R) : RowsIn (FF ro) n P row args w R := fun c cs _ => by
  obtain ⟨v, w', hr, hs⟩ := h c cs
  exact ⟨v, w', hr, stepsIn_wide.2 hs⟩

/-- An operation that is no 'defer' does in a round what it does elsewhere. -/
theorem operIn {ro : Option Nat} {n : Nat} {o : Oper} {a : Act} {w : World} {K : Act → World → Prop} {R : Exit → Act → World → Prop} (hd : ∀ c, o.op ≠ .defer c) (h : o.wp P a w K R) : o.wpIn (FF ro) n P a w K R := by
  refine ⟨fun _ _ => trivial, ?_⟩
  rw [Oper.semAt_eq _ _ _ hd]
  unfold Oper.wp at h
  generalize (execOp a.eval o).run P w = r at h
  cases r with
  | ok x w' =>
    cases x <;> first | exact h | exact h.elim | exact ⟨(fun hx => by cases hx), callsIn_FF.2 h⟩ | exact ⟨(fun hx => by cases hx), rowsIn_FF h⟩
  | halt x w' => cases x <;> first | exact h | exact h.elim

theorem letsOut_lift : ¬ LetsOut (lift N cx Q) := fun ⟨_, _, h⟩ => h

def GL (P : Program) (N : Nat) (cx : Cx) (ops : Array Oper) (Q : Exit → St → Prop) (rest : List Oper) (s : St) : Prop :=
  ∀ μ a w, Rel N cx μ s a w → wpListIn (FF cx.ro) 0 P ops (lift N cx Q) rest a w

theorem GW.region {id : Nat} {l : List Oper} (h : GL P N cx l.toArray Q l s) : GW P N cx (.region id l.toArray false) Q s := fun μ a w hr => wpIn_region_lit (h μ a w hr)

theorem GL.nil {ops : Array Oper} (h : Q .normal s) : GL P N cx ops Q [] s := fun μ _ _ hr => ⟨μ, s, hr, h⟩

theorem GL.weak {ops : Array Oper} {rest : List Oper} (s' : St) (hs : Sub s s') (h : GL P N cx ops Q rest s') : GL P N cx ops Q rest s := fun μ a w hr => h μ a w (hr.sub hs)

def St.put (s : St) (d : Nat) (g : G) : St := { s with fr := (d, g) :: s.fr }

theorem get_cons (t k : Nat) (g : G) (r : List (Nat × G)) : get ((k, g) :: r) t = bif Nat.beq k t then some g else get r t := rfl

/-- Slot 'd' gets 'v', which reads as 'g'. -/
theorem Rel.put {μ : Mu} {a : Act} {w : World} (h : Rel N cx μ s a w) {d : Nat} {g : G} {v : Value} (hd : d < N) (hv : RepV (cx.O s.st μ) cx.base w μ g v) :
    Rel N cx μ (s.put d g) (a.put (some d) v) w := by
  refine { st := h.st, nd := h.nd, sz := by simp [Act.put, h.sz], fr := ?_ }
  intro t g' hg
  have hsz := h.sz
  simp only [St.put, get_cons] at hg
  by_cases e : d = t
  · subst e
    rw [Nat.beq_refl, cond_true] at hg
    cases hg
    exact ⟨v, by simp only [Act.put]; rw [Array.getElem?_setIfInBounds_self_of_lt (by omega)], hv⟩
  · have : Nat.beq d t = false := by
      cases h3 : Nat.beq d t with
      | false => rfl
      | true => exact absurd (Nat.eq_of_beq_eq_true h3) e
    rw [this, cond_false] at hg
    obtain ⟨u, hu, hr⟩ := h.fr t g' hg
    exact ⟨u, by simp only [Act.put]; rw [Array.getElem?_setIfInBounds_ne (by omega)]; exact hu, hr⟩

/-- Nothing is said of slot 'd' any more. -/
def del : List (Nat × G) → Nat → List (Nat × G)
  | [], _ => []
  | (k, g) :: r, t => bif Nat.beq k t then del r t else (k, g) :: del r t

/-- An operation that yields 'g' and leaves the world alone, in every world that keeps what this one has but for the blocks of the handles in 'W'. -/
def Yield (P : Program) (W : List Nat) (s : St) (o : Oper) (g : G) : Prop :=
  ∀ (N : Nat) (cx : Cx) (μ : Mu) (a : Act) (w : World), Rel N cx μ s a w → ∃ v, RepV (cx.O s.st μ) cx.base w μ g v ∧
    ∀ w', w.heap.size ≤ w'.heap.size → (∀ b, b < w.heap.size → (∀ h k m, h ∈ W → sget s.st h = some k → μ h ≠ some (b, m)) → w'.heap[b]? = w.heap[b]?) → (execOp a.eval o).run P w' = .ok (.value v) w'

/-- What the guard says. -/
def wants (ops : Array Oper) (s : St) : Option (Nat × Bool) → Option Bool
  | none => some true
  | some (j, want) => match (ops[j]?).bind (·.dst) with
    | some d => match get s.fr d with
      | some (.val (.bool b)) => some (b == want)
      | some (.tup []) => some false
      | _ => none
    | none => none

theorem wants_spec {ops : Array Oper} {μ : Mu} {a : Act} {w : World} (h : Rel N cx μ s a w) {o : Oper} {b : Bool} (hg : wants ops s o.guard = some b) : Region.wanted o (yielded ops a.tmps) = b := by
  unfold Region.wanted
  cases hgd : o.guard with
  | none => rw [hgd] at hg; simpa [wants] using hg
  | some jw =>
    obtain ⟨j, want⟩ := jw
    rw [hgd] at hg
    simp only [wants] at hg
    cases hd : (ops[j]?).bind (·.dst) with
    | none => rw [hd] at hg; cases hg
    | some d =>
      simp only [hd] at hg
      cases hf : get s.fr d with
      | none => simp [hf] at hg
      | some g =>
        simp only [hf] at hg
        cases g with
        | val v =>
          cases v with
          | bool c =>
            simp only [Option.some.injEq] at hg
            obtain ⟨u, hu, hr⟩ := h.fr d _ hf
            cases hr with
            | imm hr =>
              cases hr
              cases ho : ops[j]? with
              | none => rw [ho] at hd; cases hd
              | some oj =>
                rw [ho] at hd
                simp only [Option.bind_some] at hd
                simp only [yielded, ho, hd, hu, Option.bind_some]
                subst hg
                simp
          | _ => cases hg
        | tup l =>
          cases l with
          | cons _ _ => cases hg
          | nil =>
            simp only [Option.some.injEq] at hg
            subst hg
            obtain ⟨u, hu, hr⟩ := h.fr d _ hf
            have hu' : u = .tuple #[] := by
              cases hr with
              | imm hr => cases hr
              | tup _ us hl _ =>
                obtain rfl : us = [] := List.eq_nil_of_length_eq_zero (by simpa using hl)
                rfl
            subst hu'
            cases ho : ops[j]? with
            | none => rw [ho] at hd; cases hd
            | some oj =>
              rw [ho] at hd
              simp only [Option.bind_some] at hd
              simp only [yielded, ho, hd, hu, Option.bind_some]
              simp
        | _ => cases hg

theorem execOp_value_noDefer {ρ : Operand → Value} {o : Oper} {v : Value} {w w' : World} (h : (execOp ρ o).run P w = .ok (.value v) w') (c : Call) : o.op ≠ .defer c := by
  intro e
  obtain ⟨d, op, ty, pos, after, guard⟩ := o
  cases e
  simp only [execOp, Sem.run_bind] at h
  cases hr : (resolve ρ c ty).run P w with
  | ok x w1 => rw [hr] at h; simp at h
  | halt x w1 => rw [hr] at h; cases h

theorem GL.yield {ops : Array Oper} {rest : List Oper} {o : Oper} {d : Nat} {g : G} (hw : wants ops s o.guard = some true) (hd : o.dst = some d) (hN : d < N)
    (hy : Yield P [] s o g) (h : GL P N cx ops Q rest (s.put d g)) : GL P N cx ops Q (o :: rest) s := by
  intro μ a w hr
  obtain ⟨v, hv, hrun⟩ := hy N cx μ a w hr
  have hrun := hrun w (Nat.le_refl _) (fun _ _ _ => rfl)
  unfold wpListIn
  rw [if_pos (wants_spec hr hw)]
  refine operIn (execOp_value_noDefer hrun) ?_
  unfold Oper.wp
  rw [hrun]
  show wpListIn (FF cx.ro) 0 P ops (lift N cx Q) rest (a.put o.dst v) w
  rw [hd]
  exact h μ _ w (hr.put hN hv)

theorem Rel.put_undef {μ : Mu} {a : Act} {w : World} (h : Rel N cx μ s a w) (d : Nat) : Rel N cx μ { s with fr := del s.fr d } (a.put (some d) undef) w := by
  refine { st := h.st, nd := h.nd, sz := by simp [Act.put, h.sz], fr := ?_ }
  intro t g hg
  have key : ∀ fr : List (Nat × G), get (del fr d) t = some g → d ≠ t ∧ get fr t = some g := by
    intro fr
    induction fr with
    | nil => intro h; cases h
    | cons x r ih =>
      obtain ⟨k, g'⟩ := x
      intro hq
      simp only [del] at hq
      cases hk : Nat.beq k d with
      | true =>
        rw [hk, cond_true] at hq
        obtain ⟨h1, h2⟩ := ih hq
        refine ⟨h1, ?_⟩
        have := Nat.eq_of_beq_eq_true hk
        subst this
        have h3 : Nat.beq k t = false := by
          cases h3 : Nat.beq k t with
          | false => rfl
          | true => exact absurd (Nat.eq_of_beq_eq_true h3) h1
        rw [get_cons, h3]; exact h2
      | false =>
        rw [hk, cond_false, get_cons] at hq
        rw [get_cons]
        cases h3 : Nat.beq k t with
        | true =>
          rw [h3, cond_true] at hq
          have := Nat.eq_of_beq_eq_true h3
          subst this
          refine ⟨?_, hq⟩
          intro e
          subst e
          rw [Nat.beq_refl] at hk
          cases hk
        | false => rw [h3, cond_false] at hq; exact ih hq
  obtain ⟨hne, hg'⟩ := key s.fr hg
  obtain ⟨u, hu, hr⟩ := h.fr t g hg'
  exact ⟨u, by simp only [Act.put]; rw [Array.getElem?_setIfInBounds_ne hne]; exact hu, hr⟩

theorem GL.pass {ops : Array Oper} {rest : List Oper} {o : Oper} (hw : wants ops s o.guard = some false) (h : GL P N cx ops Q rest { s with fr := match o.dst with | some d => del s.fr d | none => s.fr }) :
    GL P N cx ops Q (o :: rest) s := by
  intro μ a w hr
  unfold wpListIn
  rw [if_neg (by rw [wants_spec hr hw]; simp)]
  refine ⟨fun _ _ => trivial, ?_⟩
  cases hd : o.dst with
  | none =>
    rw [hd] at h
    exact h μ a w hr
  | some d =>
    rw [hd] at h
    exact h μ _ w (hr.put_undef d)

end
end Go.AM
