/-
  AM, part T: a block said in other words; slices given out of hand; a nil slice in a box taken in hand; lists written out.
-/
import Derived.Test.YtllnemgkfdgljaaAmS
set_option linter.unusedSectionVars false
set_option linter.unusedSimpArgs false
set_option linter.unusedVariables false
namespace Go.AM

section
variable {P : Program} {N : Nat} {cx : Cx} {Q : Exit → St → Prop} {s : St} {ops : Array Oper} {rest : List Oper}

/-- Of a block the same is said in other words. -/
theorem Rel.restate {μ : Mu} {a : Act} {w : World} (h : Rel N cx μ s a w) {hh : Nat} {k k' : Blk} (hk : sget s.st hh = some k) (he : k'.ety = k.ety) (hmine : k'.mine = k.mine) (hsz : k'.sz = k.sz) (hl : k'.cells.length ≤ k.cells.length) (hlp : k.lp = none) (hlp' : k'.lp = none)
    (hc : ∀ (j : Nat) (g' : G), k'.cells[j]? = some g' → ∃ g, k.cells[j]? = some g ∧ ∀ v, RepC (cx.O s.st μ) cx.base w μ k g v → RepC (cx.O s.st μ) cx.base w μ k' g' v) :
    Rel N cx μ { fr := s.fr, st := sset s.st hh k', df := s.df } a w := by
  have hb := h.st.blk hh k hk
  cases hm : μ hh with
  | some bm =>
    obtain ⟨b, m⟩ := bm
    rw [hm] at hb
    obtain ⟨cs, h1, h2, h3, h4, h5, h6⟩ := hb.cells hlp
    exact (h.write hk hm (by rw [he]; exact h1) h2 rfl (fun _ _ => rfl) rfl rfl rfl (fun e => hmine ▸ e) (Nat.le_trans hl h3) (by rw [hsz]; exact h5) (fun j g' hg' => by
      obtain ⟨g, hg, hr⟩ := hc j g' hg'
      obtain ⟨v, hv, hrv⟩ := h6 j g hg
      exact ⟨v, hv, hr v hrv⟩) [hh] (by simp) hlp').1
  | none =>
    rw [hm] at hb
    obtain ⟨hb, _⟩ := hb
    have hb' : k'.cells = [] := List.eq_nil_of_length_eq_zero (by rw [hb] at hl; simpa using hl)
    have hOO : ∀ b, cx.O (sset s.st hh k') μ b ↔ cx.O s.st μ b := fun b => or_congr Iff.rfl (Own.sset hk)
    have hO : ∀ b, b < w.heap.size → ¬ cx.O s.st μ b → ¬ cx.O (sset s.st hh k') μ b := fun b _ hn ho => hn ((hOO b).1 ho)
    have f : ∀ x k1, sget (sset s.st hh k') x = some k1 → ∃ k1, sget s.st x = some k1 := fun x k1 h1 => by
      rcases sget_sset_iff hk h1 with ⟨rfl, rfl⟩ | ⟨_, h1⟩
      · exact ⟨k, hk⟩
      · exact ⟨_, h1⟩
    refine { st := { blk := ?_, inj := ?_, out := ?_, pin := ?_, xlt := h.st.xlt, hb := h.st.hb, os := h.st.os, tape := h.st.tape, output := h.st.output, keep := h.st.keep }, nd := h.nd.mono (Kept.refl _ _) hO, sz := h.sz, fr := fun t g hg => ?_ }
    · intro x k1 h1
      rcases sget_sset_iff hk h1 with ⟨rfl, rfl⟩ | ⟨_, h1⟩
      · rw [hm]; exact ⟨hb', hlp'⟩
      · exact (h.st.blk x k1 h1).mono (fun _ _ _ => rfl) (Kept.refl _ _) hO
    · intro x x' k1 k2 b1 m1 m2 h1 h2 h3 h4
      obtain ⟨k1', h1'⟩ := f x k1 h1
      obtain ⟨k2', h2'⟩ := f x' k2 h2
      exact h.st.inj x x' k1' k2' b1 m1 m2 h1' h2' h3 h4
    · intro x k1 b1 m1 h1 h2
      obtain ⟨k1', h1'⟩ := f x k1 h1
      exact h.st.out x k1' b1 m1 h1' h2
    · intro x k1 h1 h2
      obtain ⟨k1', h1'⟩ := f x k1 h1
      exact h.st.pin x k1' h1' h2
    · obtain ⟨v, hv, hr⟩ := h.fr t g hg
      exact ⟨v, hv, hr.mono (Kept.refl _ _) hO (Nat.le_refl _)⟩

/-- A block whose cells lean on nothing of the call's own. -/
theorem Rel.purify {μ : Mu} {a : Act} {w : World} (h : Rel N cx μ s a w) {hh : Nat} {k : Blk} {cs : List G} {f : Bool} (hk : sget s.st hh = some k) (hp : k.pure = false) (hi : immGs k.cells = some (cs, f)) (hlp : k.lp = none) :
    Rel N cx μ { fr := s.fr, st := sset s.st hh { k with pure := true, fresh := f, cells := cs }, df := s.df } a w := by
  obtain ⟨h1, h2⟩ := immGs_get hi
  refine h.restate hk rfl rfl rfl (by simp only; omega) hlp hlp fun j g' hg' => ?_
  obtain ⟨g, f', h3, h4, h5⟩ := h2 j g' hg'
  refine ⟨g, h3, fun v hv => ?_⟩
  unfold RepC at hv ⊢
  rw [hp] at hv
  have := immG_spec hv h4
  simp only
  cases f with
  | true => rw [h5 rfl] at this; exact this
  | false =>
    cases f' with
    | false => exact this
    | true => exact RepI.old this

theorem GL.purify (hh : Nat) {k : Blk} {cs : List G} {f : Bool} (hk : sget s.st hh = some k) (hp : k.pure = false) (hi : immGs k.cells = some (cs, f))
    (h : GL P N cx ops Q rest { fr := s.fr, st := sset s.st hh { k with pure := true, fresh := f, cells := cs }, df := s.df }) (hlp : k.lp = none := by rfl) : GL P N cx ops Q rest s := fun μ a w hr => h μ a w (hr.purify hk hp hi hlp)


theorem GH2.purify {W : List Nat} {fuel : Nat} {listed : Array Bool} (hh : Nat) {k : Blk} {cs : List G} {f : Bool} (hk : sget s.st hh = some k) (hp : k.pure = false) (hi : immGs k.cells = some (cs, f))
    (h : GH2 P N cx ops Q W fuel listed { fr := s.fr, st := sset s.st hh { k with pure := true, fresh := f, cells := cs }, df := s.df }) (hlp : k.lp = none := by rfl) : GH2 P N cx ops Q W fuel listed s := fun ws Wb μ a w hr hS hW =>
  h ws Wb μ a w (hr.purify hk hp hi hlp) hS fun x k' b m h1 h2 h3 => by
    rcases sget_sset_iff hk h2 with ⟨rfl, rfl⟩ | ⟨_, h2⟩
    · exact hW x k b m h1 hk h3
    · exact hW x k' b m h1 h2 h3

/-! ### A nil slice in a box, taken in hand -/

theorem Rel.newNil {μ : Mu} {a : Act} {w : World} (h : Rel N cx μ s a w) (hd : Nat) (k : Blk) (hf : fresh s hd = true) (hk : k.cells = []) (hlp : k.lp = none) : Rel N cx (upd μ hd none) { fr := s.fr, st := (hd, k) :: s.st, df := s.df } a w := by
  obtain ⟨h1, h2, h3, h5, h6⟩ := fresh_spec hf
  obtain ⟨h4, hO⟩ := h.st.newNil h1 h3 (not_pinned h6) hk hlp
  refine { st := h4, nd := (h.nd.mono (Kept.refl _ _) (fun b _ => hO b)).remap (fun g hg y hy => upd_other fun e => by subst e; rw [dfNo_mem h5 hg] at hy; cases hy), sz := h.sz, fr := fun t' g hg' => ?_ }
  obtain ⟨v, hv, hr⟩ := h.fr t' g hg'
  refine ⟨v, hv, (hr.mono (Kept.refl _ _) (fun b _ => hO b) (Nat.le_refl _)).remap fun y hy => upd_other ?_⟩
  intro e
  subst e
  rw [frNo_get h2 hg'] at hy
  cases hy

theorem Rel.adoptC {μ : Mu} {a : Act} {w : World} (h : Rel N cx μ s a w) (hh j hd : Nat) (e : TypeId) (sz : Nat) {k : Blk} (hk : sget s.st hh = some k) (hp : k.pure = false) (hj : k.cells[j]? = some (.val (.slice none 0 0))) (hf : fresh s hd = true) (hlp : k.lp = none) :
    ∃ μ', Rel N cx μ' { fr := s.fr, st := sset ((hd, ⟨e, true, true, true, sz, [], none⟩) :: s.st) hh { k with cells := k.cells.set j (.osl hd sz 0 0) }, df := s.df } a w := by
  have h1 := h.newNil hd ⟨e, true, true, true, sz, [], none⟩ hf rfl rfl
  have hne : hh ≠ hd := fun e => by
    subst e
    obtain ⟨h2, _⟩ := fresh_spec hf
    rw [hk] at h2; cases h2
  have hk2 : sget ((hd, ⟨e, true, true, true, sz, [], none⟩) :: s.st) hh = some k := by rw [sget_cons_other _ _ hne]; exact hk
  refine ⟨_, h1.restate (s := { fr := s.fr, st := (hd, ⟨e, true, true, true, sz, [], none⟩) :: s.st, df := s.df }) hk2 rfl rfl rfl (by simp) hlp hlp fun i g' hg' => ?_⟩
  simp only [List.getElem?_set] at hg'
  by_cases e : j = i
  · subst e
    rw [if_pos rfl] at hg'
    split at hg'
    · cases hg'
      refine ⟨_, hj, fun v hv => ?_⟩
      unfold RepC at hv ⊢
      simp only [hp] at hv ⊢
      cases hv with
      | imm hv => cases hv; exact .onil hd sz (upd_same _ _ _)
    · cases hg'
  · rw [if_neg e] at hg'
    refine ⟨g', hg', fun v hv => ?_⟩
    unfold RepC at hv ⊢
    exact hv

theorem GW.adoptC {c : Code} (hh j hd : Nat) (e : TypeId) (sz : Nat) {k : Blk} (hk : sget s.st hh = some k) (hp : k.pure = false) (hj : k.cells[j]? = some (.val (.slice none 0 0))) (hf : fresh s hd = true)
    (h : GW P N cx c Q { fr := s.fr, st := sset ((hd, ⟨e, true, true, true, sz, [], none⟩) :: s.st) hh { k with cells := k.cells.set j (.osl hd sz 0 0) }, df := s.df }) (hlp : k.lp = none := by rfl) : GW P N cx c Q s := fun _ a w hr =>
  let ⟨μ', h'⟩ := hr.adoptC hh j hd e sz hk hp hj hf hlp
  h μ' a w h'
theorem GL.adoptC (hh j hd : Nat) (e : TypeId) (sz : Nat) {k : Blk} (hk : sget s.st hh = some k) (hp : k.pure = false) (hj : k.cells[j]? = some (.val (.slice none 0 0))) (hf : fresh s hd = true)
    (h : GL P N cx ops Q rest { fr := s.fr, st := sset ((hd, ⟨e, true, true, true, sz, [], none⟩) :: s.st) hh { k with cells := k.cells.set j (.osl hd sz 0 0) }, df := s.df }) (hlp : k.lp = none := by rfl) : GL P N cx ops Q rest s := fun _ a w hr =>
  let ⟨μ', h'⟩ := hr.adoptC hh j hd e sz hk hp hj hf hlp
  h μ' a w h'

/-! ### Slices given out of hand -/

def fzE (st st' : List (Nat × Blk)) (g g' : G) : Prop := fzG st st' g = some g' ∨ g = g'
def FzFr (st st' : List (Nat × Blk)) (fr : List (Nat × G)) : List (Nat × G) → Prop
  | [] => True
  | (t, g') :: r => (∃ g, get fr t = some g ∧ fzE st st' g g') ∧ FzFr st st' fr r
def FzL (st st' : List (Nat × Blk)) : List G → List G → Prop
  | [], [] => True
  | g :: r, g' :: r' => fzE st st' g g' ∧ FzL st st' r r'
  | _, _ => False
def FzSt (st st' : List (Nat × Blk)) : List (Nat × Blk) → Prop
  | [] => True
  | (h, k') :: r => (∃ k, sget st h = some k ∧ k'.ety = k.ety ∧ k'.mine = k.mine ∧ k'.sz = k.sz ∧ k'.pure = k.pure ∧ k'.fresh = k.fresh ∧ k'.lp = k.lp ∧ ((k.pure = true ∧ k'.cells = k.cells) ∨ (k.pure = false ∧ FzL st st' k.cells k'.cells))) ∧ FzSt st st' r

theorem FzFr.get {st st' : List (Nat × Blk)} {fr : List (Nat × G)} : ∀ {fr' : List (Nat × G)}, FzFr st st' fr fr' → ∀ {t : Nat} {g' : G}, AM.get fr' t = some g' → ∃ g, AM.get fr t = some g ∧ fzE st st' g g'
  | [], _, _, _, h => by cases h
  | (k, g0) :: r, ⟨h1, h2⟩, t, g', h => by
    simp only [AM.get] at h
    cases hk : Nat.beq k t with
    | true => rw [hk] at h; have := Nat.eq_of_beq_eq_true hk; subst this; simp at h; subst h; exact h1
    | false => rw [hk] at h; exact FzFr.get h2 h
theorem FzSt.get {st st' : List (Nat × Blk)} : ∀ {l : List (Nat × Blk)}, FzSt st st' l → ∀ {t : Nat} {k' : Blk}, sget l t = some k' → ∃ k, sget st t = some k ∧ k'.ety = k.ety ∧ k'.mine = k.mine ∧ k'.sz = k.sz ∧ k'.pure = k.pure ∧ k'.fresh = k.fresh ∧ k'.lp = k.lp ∧ ((k.pure = true ∧ k'.cells = k.cells) ∨ (k.pure = false ∧ FzL st st' k.cells k'.cells))
  | [], _, _, _, h => by cases h
  | (k, g0) :: r, ⟨h1, h2⟩, t, g', h => by
    simp only [sget] at h
    cases hk : Nat.beq k t with
    | true => rw [hk] at h; have := Nat.eq_of_beq_eq_true hk; subst this; simp at h; subst h; exact h1
    | false => rw [hk] at h; exact FzSt.get h2 h
theorem FzL.get {st st' : List (Nat × Blk)} : ∀ {l l' : List G}, FzL st st' l l' → l'.length = l.length ∧ ∀ {j : Nat} {g' : G}, l'[j]? = some g' → ∃ g, l[j]? = some g ∧ fzE st st' g g'
  | [], [], _ => ⟨rfl, fun h => by cases h⟩
  | _ :: _, [], h => h.elim
  | [], _ :: _, h => h.elim
  | g :: r, g1 :: r', ⟨h1, h2⟩ => by
    obtain ⟨h3, h4⟩ := FzL.get h2
    refine ⟨by simp [h3], fun {j g'} h => ?_⟩
    cases j with
    | zero => cases h; exact ⟨g, rfl, h1⟩
    | succ j => exact h4 h

theorem Rel.freeze {μ : Mu} {a : Act} {w : World} (h : Rel N cx μ s a w) {s' : St} (hst : FzSt s.st s'.st s'.st) (hfr : FzFr s.st s'.st s.fr s'.fr) (hdf : s.df = s'.df) : Rel N cx μ s' a w := by
  have hdom : ∀ x k, sget s'.st x = some k → ∃ k0, sget s.st x = some k0 := fun x k hk => let ⟨k0, h1, _⟩ := hst.get hk; ⟨k0, h1⟩
  have hO : ∀ b, b < w.heap.size → ¬ cx.O s.st μ b → ¬ cx.O s'.st μ b := fun b _ hn ho => hn (ho.imp id fun ⟨x, k, m, h1, h2⟩ => let ⟨k0, h3⟩ := hdom x k h1; ⟨x, k0, m, h3, h2⟩)
  have hE : ∀ {g g' : G} {v : Value}, fzE s.st s'.st g g' → RepV (cx.O s.st μ) cx.base w μ g v → RepV (cx.O s'.st μ) cx.base w μ g' v := by
    intro g g' v hz hv
    rcases hz with hz | rfl
    · exact fzG_spec h.st hdom hv hz
    · exact hv.mono (Kept.refl _ _) hO (Nat.le_refl _)
  refine { st := { blk := ?_, inj := ?_, out := ?_, pin := ?_, xlt := h.st.xlt, hb := h.st.hb, os := h.st.os, tape := h.st.tape, output := h.st.output, keep := h.st.keep }, nd := hdf ▸ h.nd.mono (Kept.refl _ _) hO, sz := h.sz, fr := fun t g' hg' => ?_ }
  · intro x k' hk'
    obtain ⟨k, hk, e1, e2, e3, e4, e5, e7, e6⟩ := hst.get hk'
    have hb := h.st.blk x k hk
    have hlen : k'.cells.length = k.cells.length := by
      rcases e6 with ⟨_, e⟩ | ⟨_, e⟩
      · rw [e]
      · exact e.get.1
    cases hm : μ x with
    | none =>
      rw [hm] at hb
      obtain ⟨hb, hlp⟩ := hb
      exact ⟨List.eq_nil_of_length_eq_zero (by rw [hlen, hb]; rfl), by rw [e7]; exact hlp⟩
    | some bm =>
      obtain ⟨b, m⟩ := bm
      rw [hm] at hb
      cases hlp : k.lp with
      | none =>
        obtain ⟨cs, h1, h2, h3, h4, h5, h6⟩ := hb.cells hlp
        refine .mk (e7.trans hlp) ⟨cs, by rw [e1]; exact h1, h2, by rw [hlen]; exact h3, fun hmn => h4 (e2 ▸ hmn), by rw [e3]; exact h5, fun j g' hg' => ?_⟩
        rcases e6 with ⟨hp, e⟩ | ⟨hp, e⟩
        · rw [e] at hg'
          obtain ⟨v, hv, hr⟩ := h6 j g' hg'
          refine ⟨v, hv, ?_⟩
          have := hr.mono (Kept.refl _ _) hO
          unfold RepC at this ⊢
          rw [e4, e5]
          exact this
        · obtain ⟨g, hg, hz⟩ := e.get.2 hg'
          obtain ⟨v, hv, hr⟩ := h6 j g hg
          refine ⟨v, hv, ?_⟩
          unfold RepC at hr ⊢
          rw [e4]
          simp only [hp] at hr ⊢
          exact hE hz hr
      | some lp =>
        unfold RelBlk at hb ⊢
        rw [e7, hlp]
        rw [hlp] at hb
        obtain ⟨D, vs, h1, h2, h3, h4, h5⟩ := hb
        refine ⟨D, vs, h1, h2, e2.trans h3, e4.trans h4, fun j t g' ht hg' => ?_⟩
        rcases e6 with ⟨hp, _⟩ | ⟨_, e⟩
        · rw [h4] at hp; cases hp
        · obtain ⟨g, hg, hz⟩ := e.get.2 hg'
          obtain ⟨v, hv, hr⟩ := h5 j t g ht hg
          exact ⟨v, hv, hE hz hr⟩
  · intro x x' k1 k2 b m m' h1 h2 h3 h4
    obtain ⟨k1', h1'⟩ := hdom x k1 h1
    obtain ⟨k2', h2'⟩ := hdom x' k2 h2
    exact h.st.inj x x' k1' k2' b m m' h1' h2' h3 h4
  · intro x k1 b m h1 h2
    obtain ⟨k1', h1'⟩ := hdom x k1 h1
    exact h.st.out x k1' b m h1' h2
  · intro x k1 h1 h2
    obtain ⟨k1', h1'⟩ := hdom x k1 h1
    exact h.st.pin x k1' h1' h2
  · obtain ⟨g, hg, hz⟩ := hfr.get hg'
    obtain ⟨v, hv, hr⟩ := h.fr t g hg
    exact ⟨v, hv, hE hz hr⟩

theorem GL.freeze (s' : St) (hst : FzSt s.st s'.st s'.st) (hfr : FzFr s.st s'.st s.fr s'.fr) (h : GL P N cx ops Q rest s') (hdf : s.df = s'.df := by rfl) : GL P N cx ops Q rest s := fun μ a w hr => h μ a w (hr.freeze hst hfr hdf)
theorem GW.freeze {c : Code} (s' : St) (hst : FzSt s.st s'.st s'.st) (hfr : FzFr s.st s'.st s.fr s'.fr) (h : GW P N cx c Q s') (hdf : s.df = s'.df := by rfl) : GW P N cx c Q s := fun μ a w hr => h μ a w (hr.freeze hst hfr hdf)

end
end Go.AM
