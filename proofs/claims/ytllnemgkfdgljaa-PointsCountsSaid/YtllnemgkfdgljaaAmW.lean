/-
  AM, part W: lists without references.
-/
import Derived.Test.YtllnemgkfdgljaaAmV
set_option linter.unusedSectionVars false
set_option linter.unusedSimpArgs false
set_option linter.unusedVariables false
namespace Go.AM

class Flat (α : Type) [Enc α] : Prop where
  flat : ∀ (a : α) (g : G), g ∈ Enc.cells a → ∃ v, g = .val v
instance : Flat Int := ⟨fun a g h => by simp [Enc.cells] at h; exact ⟨_, h⟩⟩
instance : Flat Bool := ⟨fun a g h => by simp [Enc.cells] at h; exact ⟨_, h⟩⟩
instance : Flat ByteArray := ⟨fun a g h => by simp [Enc.cells] at h; exact ⟨_, h⟩⟩

section
variable {α : Type} [Enc α] [Flat α]
variable {P : Program} {N : Nat} {cx : Cx} {Q : Exit → St → Prop} {s : St} {ops : Array Oper} {rest : List Oper}

theorem Rel.refresh {μ : Mu} {a : Act} {w : World} (h : Rel N cx μ s a w) {hh : Nat} {k : Blk} {l : List α} (hk : sget s.st hh = some k) (hc : k.cells = encs l) (hp : k.pure = true) (hlp : k.lp = none) :
    Rel N cx μ { fr := s.fr, st := sset s.st hh { k with fresh := true }, df := s.df } a w := by
  refine h.restate hk rfl rfl rfl (Nat.le_refl _) hlp hlp fun j g' hg' => ⟨g', hg', fun v hv => ?_⟩
  simp only at hg'
  rw [hc] at hg'
  obtain ⟨x, _, hx⟩ := List.mem_flatMap.1 (List.mem_of_getElem? hg')
  obtain ⟨u, rfl⟩ := Flat.flat x g' hx
  unfold RepC at hv ⊢
  simp only [hp] at hv ⊢
  cases hv
  exact .val _
theorem GL.refresh (hh : Nat) {k : Blk} {l : List α} (hk : sget s.st hh = some k) (hc : k.cells = encs l) (hp : k.pure = true) (h : GL P N cx ops Q rest { fr := s.fr, st := sset s.st hh { k with fresh := true }, df := s.df }) (hlp : k.lp = none := by rfl) : GL P N cx ops Q rest s :=
  fun μ a w hr => h μ a w (hr.refresh hk hc hp hlp)
theorem GH2.refresh {W : List Nat} {fuel : Nat} {listed : Array Bool} (hh : Nat) {k : Blk} {l : List α} (hk : sget s.st hh = some k) (hc : k.cells = encs l) (hp : k.pure = true)
    (h : GH2 P N cx ops Q W fuel listed { fr := s.fr, st := sset s.st hh { k with fresh := true }, df := s.df }) (hlp : k.lp = none := by rfl) : GH2 P N cx ops Q W fuel listed s := fun ws Wb μ a w hr hS hW =>
  h ws Wb μ a w (hr.refresh hk hc hp hlp) hS fun x k' b m h1 h2 h3 => by
    rcases sget_sset_iff hk h2 with ⟨rfl, rfl⟩ | ⟨_, h2⟩
    · exact hW x k b m h1 hk h3
    · exact hW x k' b m h1 h2 h3
end

section
variable {P : Program} {N : Nat} {cx : Cx} {Q : Exit → St → Prop} {s : St} {ops : Array Oper} {rest : List Oper}
theorem Rel.resC {μ : Mu} {a : Act} {w : World} (h : Rel N cx μ s a w) {hh j hd sz off n m : Nat} {k : Blk} (hk : sget s.st hh = some k) (hj : k.cells[j]? = some (.osl hd sz off n)) (hn : n = m) (hlp : k.lp = none) :
    Rel N cx μ { fr := s.fr, st := sset s.st hh { k with cells := k.cells.set j (.osl hd sz off m) }, df := s.df } a w := by
  subst hn
  refine h.restate hk rfl rfl rfl (by simp) hlp hlp fun i g' hg' => ⟨g', ?_, fun v hv => hv⟩
  simp only [List.getElem?_set] at hg'
  by_cases e : j = i
  · subst e
    rw [if_pos rfl] at hg'
    split at hg'
    · rw [hj]; exact hg'
    · cases hg'
  · rw [if_neg e] at hg'; exact hg'
/-- The length of a slice in a box in other words. -/
theorem GL.resC (hh j : Nat) {hd sz off n m : Nat} {k : Blk} (hk : sget s.st hh = some k) (hj : k.cells[j]? = some (.osl hd sz off n)) (hn : n = m) (h : GL P N cx ops Q rest { fr := s.fr, st := sset s.st hh { k with cells := k.cells.set j (.osl hd sz off m) }, df := s.df }) (hlp : k.lp = none := by rfl) :
    GL P N cx ops Q rest s := fun μ a w hr => h μ a w (hr.resC hk hj hn hlp)
theorem GH2.resC {W : List Nat} {fuel : Nat} {listed : Array Bool} (hh j : Nat) {hd sz off n m : Nat} {k : Blk} (hk : sget s.st hh = some k) (hj : k.cells[j]? = some (.osl hd sz off n)) (hn : n = m)
    (h : GH2 P N cx ops Q W fuel listed { fr := s.fr, st := sset s.st hh { k with cells := k.cells.set j (.osl hd sz off m) }, df := s.df }) (hlp : k.lp = none := by rfl) : GH2 P N cx ops Q W fuel listed s := fun ws Wb μ a w hr hS hW =>
  h ws Wb μ a w (hr.resC hk hj hn hlp) hS fun x k' b m h1 h2 h3 => by
    rcases sget_sset_iff hk h2 with ⟨rfl, rfl⟩ | ⟨_, h2⟩
    · exact hW x k b m h1 hk h3
    · exact hW x k' b m h1 h2 h3
end
theorem Res.cellA {P : Program} {s : St} {b t h off sz : Nat} {k : Blk} {gs : List G} (hb : get s.fr b = some (.loc h off)) (hk : sget s.st h = some k) (hp : k.pure = false) (hag : ∀ w, (isAgg t).run P w = .ok true w) (hsz : ∀ w, (sizeOf t).run P w = .ok sz w)
    (hl : Nat.ble (off + sz) k.cells.length = true) (hg : (k.cells.drop off).take sz = gs) (hlp : k.lp = none := by rfl) : Res P s (.cell b t) (.agg gs) := hg ▸ Res.cellAgg hb hk hp hag hsz (Nat.le_of_ble_eq_true hl) hlp

/-! ### Any of several that may come up -/
section
variable {P : Program} {N : Nat} {cx : Cx} {Q : Exit → St → Prop} {s : St} {ops : Array Oper}

def Turn (P : Program) (N : Nat) (cx : Cx) (ops : Array Oper) (Q : Exit → St → Prop) (W : List Nat) (fuel : Nat) (listed : Array Bool) (s : St) (i : Nat) : Prop :=
  ∀ (ws : World) (Wb : Nat → Prop) (μ : Mu) (a : Act) (w : World), Rel N cx μ s a w → Sw ws Wb w → (∀ h k b m, h ∈ W → sget s.st h = some k → μ h = some (b, m) → Wb b ∨ ws.heap.size ≤ b) →
    wpOp P ops (lift N cx Q) i (fun a' w' => Sw ws Wb w' ∧ wpAnyH P .any ops (lift N cx Q) (Sw ws Wb) fuel (listed.setIfInBounds i true) a' w') a w

theorem Turn.y {W : List Nat} {fuel : Nat} {listed : Array Bool} (i : Nat) {o : Oper} {d : Nat} {g : G} (hi : ops[i]? = some o) (hw : wants ops s o.guard = some true) (hd : o.dst = some d) (hN : d < N) (hy : Yield P [] s o g)
    (h : GH2 P N cx ops Q W fuel (listed.setIfInBounds i true) (s.put d g)) : Turn P N cx ops Q W fuel listed s i := by
  intro ws Wb μ a w hrel hS hW
  obtain ⟨v, hv, hrun⟩ := hy N cx μ a w hrel
  have hrun := hrun w (Nat.le_refl _) (fun _ _ _ => rfl)
  unfold wpOp
  simp only [hi]
  rw [if_pos (wants_spec hrel hw)]
  refine .inl ?_
  unfold Oper.wp
  rw [hrun]
  show Sw ws Wb w ∧ _
  refine ⟨hS, ?_⟩
  rw [hd]
  exact h ws Wb μ _ w (hrel.put hN hv) hS hW

theorem Turn.e {W : List Nat} {fuel : Nat} {listed : Array Bool} (i : Nat) {o : Oper} {T : St → Prop} (hi : ops[i]? = some o) (hw : wants ops s o.guard = some true) (hN : ∀ d, o.dst = some d → d < N) (he : Effect P W s o T)
    (h : ∀ s', T s' → GH2 P N cx ops Q W fuel (listed.setIfInBounds i true) s') : Turn P N cx ops Q W fuel listed s i := by
  intro ws Wb μ a w hrel hS hW
  unfold wpOp
  simp only [hi]
  rw [if_pos (wants_spec hrel hw)]
  have := he.2 N cx μ a w hrel hN (fun a' w' => Sw ws Wb w' ∧ wpAnyH P .any ops (lift N cx Q) (Sw ws Wb) fuel (listed.setIfInBounds i true) a' w') (lift N cx Q) ?_
  · exact .inl this
  · intro μ' s' a' w' hrel' ht hst
    have hS' : Sw ws Wb w' := by
      refine ⟨Nat.le_trans hS.size hst.size, fun b hb hn => ?_⟩
      rw [hst.block b (Nat.lt_of_lt_of_le hb hS.size) ?_]
      · exact hS.block b hb hn
      · intro h k m h1 h2 h3
        rcases hW h k b m h1 h2 h3 with h4 | h4
        · exact hn h4
        · omega
    refine ⟨hS', h s' ht ws Wb μ' a' w' hrel' hS' ?_⟩
    intro h k' b m h1 h2 h3
    rcases hst.hand h k' b m h1 h2 h3 with ⟨h0, k, m0, hw0, h4, h5⟩ | h4
    · exact hW h0 k b m0 hw0 h4 h5
    · exact .inr (Nat.le_trans hS.size h4)

def Turns (P : Program) (N : Nat) (cx : Cx) (ops : Array Oper) (Q : Exit → St → Prop) (W : List Nat) (fuel : Nat) (listed : Array Bool) (s : St) : List Nat → Prop
  | [] => True
  | i :: r => Turn P N cx ops Q W fuel listed s i ∧ Turns P N cx ops Q W fuel listed s r

theorem Turns.get {W : List Nat} {fuel : Nat} {listed : Array Bool} : ∀ {rs : List Nat}, Turns P N cx ops Q W fuel listed s rs → ∀ i ∈ rs, Turn P N cx ops Q W fuel listed s i
  | [], _, _, h => by cases h
  | j :: r, ⟨h1, h2⟩, i, h => by
    rcases List.mem_cons.1 h with rfl | h
    · exact h1
    · exact Turns.get h2 i h

theorem GH2.any {W : List Nat} {fuel : Nat} {listed : Array Bool} (i : Nat) (r : List Nat) (hr : Region.ready .any ops listed = i :: r) (h : Turns P N cx ops Q W fuel listed s (i :: r)) : GH2 P N cx ops Q W (fuel + 1) listed s := by
  intro ws Wb μ a w hrel hS hW
  refine wpAnyH_all hr (by simp) fun j hj => h.get j hj ws Wb μ a w hrel hS hW
end
end Go.AM
