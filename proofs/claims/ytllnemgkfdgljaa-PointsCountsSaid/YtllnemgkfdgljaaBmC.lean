/-
  AM, part BC: a handle under another number (a block that was handed in and may move from now on).
-/
import Derived.Test.YtllnemgkfdgljaaBmB
set_option linter.unusedSectionVars false
set_option linter.unusedSimpArgs false
set_option linter.unusedVariables false
namespace Go.AM

def mv (h h' x : Nat) : Nat := bif Nat.beq x h then h' else x
theorem mv_same (h h' : Nat) : mv h h' h = h' := by simp [mv, Nat.beq_refl]
theorem mv_other {h h' x : Nat} (e : x ≠ h) : mv h h' x = x := by
  unfold mv
  cases hb : Nat.beq x h with
  | false => rfl
  | true => exact absurd (Nat.eq_of_beq_eq_true hb) e

def mvG (h h' : Nat) : G → G
  | .loc x off => .loc (mv h h' x) off
  | .osl x sz off n => .osl (mv h h' x) sz off n
  | .yld x => .yld (mv h h' x)
  | .agg gs => .agg (go gs)
  | .tup gs => .tup (go gs)
  | .clo f gs => .clo f (go gs)
  | g => g
where go : List G → List G
  | [] => []
  | g :: r => mvG h h' g :: go r
theorem mvG_go {h h' : Nat} {gs : List G} : (mvG.go h h' gs).length = gs.length ∧ ∀ (j : Nat) (g' : G), (mvG.go h h' gs)[j]? = some g' → ∃ g, gs[j]? = some g ∧ g' = mvG h h' g := by
  induction gs with
  | nil => exact ⟨rfl, fun j g e => by simp [mvG.go] at e⟩
  | cons x r ih =>
    refine ⟨by simp [mvG.go, ih.1], fun j g' e => ?_⟩
    simp only [mvG.go] at e
    cases j with
    | zero => cases e; exact ⟨x, rfl, rfl⟩
    | succ j => exact ih.2 j g' e
def mvB (h h' : Nat) (k : Blk) : Blk := bif k.pure then k else { k with cells := mvG.go h h' k.cells }
def mvFr (h h' : Nat) : List (Nat × G) → List (Nat × G)
  | [] => []
  | (t, g) :: r => (t, mvG h h' g) :: mvFr h h' r
def mvSt (h h' : Nat) : List (Nat × Blk) → List (Nat × Blk)
  | [] => []
  | (x, k) :: r => (mv h h' x, mvB h h' k) :: mvSt h h' r
theorem get_mvFr {h h' : Nat} {fr : List (Nat × G)} {t : Nat} {g : G} (hg : get (mvFr h h' fr) t = some g) : ∃ g0, get fr t = some g0 ∧ g = mvG h h' g0 := by
  induction fr with
  | nil => cases hg
  | cons x r ih =>
    obtain ⟨k, g'⟩ := x
    simp only [mvFr, get_cons] at hg ⊢
    cases hb : Nat.beq k t with
    | true => rw [hb] at hg; cases hg; exact ⟨g', rfl, rfl⟩
    | false => rw [hb] at hg; exact ih hg
theorem sget_mvSt {h h' : Nat} (hne : h' ≠ h) {st : List (Nat × Blk)} {y : Nat} {k2 : Blk} (hn : sget st h' = none) (hg : sget (mvSt h h' st) y = some k2) :
    (y = h' ∧ ∃ k, sget st h = some k ∧ k2 = mvB h h' k) ∨ (y ≠ h' ∧ y ≠ h ∧ ∃ k, sget st y = some k ∧ k2 = mvB h h' k) := by
  induction st with
  | nil => cases hg
  | cons x r ih =>
    obtain ⟨z, k⟩ := x
    have hz : z ≠ h' := fun e => by subst e; rw [sget_cons_same] at hn; cases hn
    rw [sget_cons_other _ _ (Ne.symm hz)] at hn
    simp only [mvSt, sget_cons] at hg
    cases hb : Nat.beq (mv h h' z) y with
    | true =>
      rw [hb] at hg
      cases hg
      have hb := Nat.eq_of_beq_eq_true hb
      by_cases e : z = h
      · subst e
        rw [mv_same] at hb
        exact .inl ⟨hb.symm, k, sget_cons_same _ _ _, rfl⟩
      · rw [mv_other e] at hb
        subst hb
        exact .inr ⟨hz, e, k, sget_cons_same _ _ _, rfl⟩
    | false =>
      rw [hb] at hg
      have hbz : mv h h' z ≠ y := fun e => by rw [e, Nat.beq_refl] at hb; cases hb
      rcases ih hn hg with ⟨e, k', h1, h2⟩ | ⟨e1, e2, k', h1, h2⟩
      · refine .inl ⟨e, k', ?_, h2⟩
        rw [sget_cons_other _ _ (fun e' => by subst e'; rw [mv_same] at hbz; exact hbz e.symm)]
        exact h1
      · refine .inr ⟨e1, e2, k', ?_, h2⟩
        rw [sget_cons_other _ _ (fun e' => by subst e'; rw [mv_other e2] at hbz; exact hbz rfl)]
        exact h1

theorem mvG_spec {O : Nat → Prop} {base : Nat} {w : World} {μ μ' : Mu} {h h' : Nat} {g : G} {v : Value} (hv : RepV O base w μ g v) (h1 : μ' h' = μ h) (h2 : ∀ y, y ≠ h → g.hasH y = true → μ' y = μ y) : RepV O base w μ' (mvG h h' g) v := by
  have key : ∀ {y : Nat} {x : Option (Nat × Nat)}, μ y = x → (y ≠ h → μ' y = μ y) → μ' (mv h h' y) = x := by
    intro y x hm hy
    by_cases e : y = h
    · subst e; rw [mv_same, h1]; exact hm
    · rw [mv_other e, hy e]; exact hm
  have imm : ∀ {g : G} {v : Value}, RepI O w g v → RepV O base w μ' (mvG h h' g) v := by
    intro g v hi
    induction hi with
    | any v => exact .imm (.any v)
    | val v => exact .imm (.val v)
    | nil => exact .imm .nil
    | emp a c => exact .imm (.emp a c)
    | sl n cells b off cap us h1 h2 h3 h4 h5 ih => exact .imm (.sl n cells b off cap us h1 h2 h3 h4 h5)
    | ptr cells b off us h1 h2 h3 h4 ih => exact .imm (.ptr cells b off us h1 h2 h3 h4)
    | agg cells us hl hr ih =>
      refine .agg _ us (by rw [mvG_go.1]; exact hl) fun j g v hg hv => ?_
      obtain ⟨g0, e1, rfl⟩ := mvG_go.2 j g hg
      exact ih j g0 v e1 hv
  induction hv with
  | imm h => exact imm h
  | fr h => exact .fr h
  | loc x off b m hm => exact .loc _ off b m (key hm fun e => h2 x e (by simp [G.hasH, Nat.beq_refl]))
  | onil x sz hm => exact .onil _ sz (key hm fun e => h2 x e (by simp [G.hasH, Nat.beq_refl]))
  | osl x sz off n b m cap hm hn hc => exact .osl _ sz off n b m cap (key hm fun e => h2 x e (by simp [G.hasH, Nat.beq_refl])) hn hc
  | ozero x sz off0 b m hm hp => exact .ozero _ sz off0 b m (key hm fun e => h2 x e (by simp [G.hasH, Nat.beq_refl])) hp
  | yld x b m hm => exact .yld _ b m (key hm fun e => h2 x e (by simp [G.hasH, Nat.beq_refl]))
  | agg cells us hl hr ih =>
    refine .agg _ us (by rw [mvG_go.1]; exact hl) fun j g v hg hv => ?_
    obtain ⟨g0, e1, rfl⟩ := mvG_go.2 j g hg
    exact ih j g0 v e1 hv fun y hy hh => h2 y hy (by simp only [G.hasH]; exact G.hasH_go (List.mem_of_getElem? e1) hh)
  | tup cells us hl hr ih =>
    refine .tup _ us (by rw [mvG_go.1]; exact hl) fun j g v hg hv => ?_
    obtain ⟨g0, e1, rfl⟩ := mvG_go.2 j g hg
    exact ih j g0 v e1 hv fun y hy hh => h2 y hy (by simp only [G.hasH]; exact G.hasH_go (List.mem_of_getElem? e1) hh)
  | clo f cells us hl hr ih =>
    refine .clo f _ us (by rw [mvG_go.1]; exact hl) fun j g v hg hv => ?_
    obtain ⟨g0, e1, rfl⟩ := mvG_go.2 j g hg
    exact ih j g0 v e1 hv fun y hy hh => h2 y hy (by simp only [G.hasH]; exact G.hasH_go (List.mem_of_getElem? e1) hh)

theorem RelBlk.move {O : Nat → Prop} {base : Nat} {w : World} {μ μ' : Mu} {k : Blk} {x : Option (Nat × Nat)} {h h' : Nat} (hb : RelBlk O base w μ k x) (h1 : μ' h' = μ h) (h2 : k.pure = false → ∀ g ∈ k.cells, ∀ y, y ≠ h → g.hasH y = true → μ' y = μ y) : RelBlk O base w μ' (mvB h h' k) x := by
  unfold mvB
  cases hp : k.pure with
  | true => exact hb.remap fun hp' => by rw [hp] at hp'; cases hp'
  | false =>
    have h2 := h2 hp
    simp only [cond_false]
    cases x with
    | none => obtain ⟨e1, e2⟩ := hb; exact ⟨List.eq_nil_of_length_eq_zero (by simp only; rw [mvG_go.1, e1]; rfl), e2⟩
    | some bm =>
      obtain ⟨b, m⟩ := bm
      cases hl : k.lp with
      | none =>
        obtain ⟨cs1, h4, h5, h6, h7, h8, h9⟩ := hb.cells hl
        refine .mk rfl ⟨cs1, h4, h5, by simp only; rw [mvG_go.1]; exact h6, h7, h8, fun j g hg => ?_⟩
        obtain ⟨g0, e1, rfl⟩ := mvG_go.2 j g hg
        obtain ⟨v, hv, hrv⟩ := h9 j g0 e1
        refine ⟨v, hv, ?_⟩
        unfold RepC at hrv ⊢
        rw [hp] at hrv
        simp only
        exact mvG_spec hrv h1 (h2 g0 (List.mem_of_getElem? e1))
      | some lp =>
        unfold RelBlk at hb ⊢
        simp only [hl] at hb ⊢
        obtain ⟨D, vs, q1, q2, q3, q4, q5⟩ := hb
        refine ⟨D, vs, q1, q2, q3, rfl, fun j t g ht hg => ?_⟩
        obtain ⟨g0, e1, rfl⟩ := mvG_go.2 j g hg
        obtain ⟨v, hv, hrv⟩ := q5 j t g0 ht e1
        exact ⟨v, hv, mvG_spec hrv h1 (h2 g0 (List.mem_of_getElem? e1))⟩

theorem mvB_mine (h h' : Nat) (k : Blk) : (mvB h h' k).mine = k.mine := by unfold mvB; cases k.pure <;> rfl

section
variable {P : Program} {N : Nat} {cx : Cx} {s : St} {Q : Exit → St → Prop}

theorem Rel.move {μ : Mu} {a : Act} {w : World} (hr : Rel N cx μ s a w) (h h' : Nat) (hf : fresh s h' = true) (hne : Nat.beq h' h = false) :
    Rel N cx (upd μ h' (μ h)) { fr := mvFr h h' s.fr, st := mvSt h h' s.st, df := mvG.go h h' s.df } a w := by
  have hne : h' ≠ h := fun e => by subst e; rw [Nat.beq_refl] at hne; cases hne
  obtain ⟨f1, f2, f3, f4, f5⟩ := fresh_spec hf
  have other : ∀ {y}, y ≠ h' → upd μ h' (μ h) y = μ y := fun e => upd_other e
  have row := fun (y : Nat) (k2 : Blk) (e : sget (mvSt h h' s.st) y = some k2) => sget_mvSt hne f1 e
  have whr : ∀ y k2, sget (mvSt h h' s.st) y = some k2 → ∃ x k, sget s.st x = some k ∧ k2 = mvB h h' k ∧ upd μ h' (μ h) y = μ x ∧ y = mv h h' x := by
    intro y k2 e
    rcases row y k2 e with ⟨rfl, k, e1, e2⟩ | ⟨e0, e1, k, e2, e3⟩
    · exact ⟨h, k, e1, e2, upd_same _ _ _, (mv_same _ _).symm⟩
    · exact ⟨y, k, e2, e3, other e0, (mv_other e1).symm⟩
  have hO : ∀ b, ¬ cx.O s.st μ b → ¬ cx.O (mvSt h h' s.st) (upd μ h' (μ h)) b := by
    rintro b hn (ho | ⟨y, k2, m, e1, e2⟩)
    · exact hn (.inl ho)
    · obtain ⟨x, k, q1, _, q3, _⟩ := whr y k2 e1
      rw [q3] at e2
      exact hn (.inr ⟨x, k, m, q1, e2⟩)
  refine { st := { blk := ?_, inj := ?_, out := ?_, pin := ?_, xlt := hr.st.xlt, hb := hr.st.hb, os := hr.st.os, tape := hr.st.tape, output := hr.st.output, keep := hr.st.keep }, nd := ?_, sz := hr.sz, fr := ?_ }
  · intro y k2 e
    obtain ⟨x, k, q1, rfl, q3, _⟩ := whr y k2 e
    rw [q3]
    exact ((hr.st.blk x k q1).mono (fun _ _ _ => rfl) (Kept.refl _ _) fun b _ => hO b).move (upd_same _ _ _) fun hp g hg y _ hh => other fun e => by subst e; rw [stNo_get f3 q1 hp hg] at hh; cases hh
  · intro y y' k2 k2' b m m' e1 e2 e3 e4
    obtain ⟨x, k, q1, _, q3, q4⟩ := whr y k2 e1
    obtain ⟨x', k', q1', _, q3', q4'⟩ := whr y' k2' e2
    rw [q3] at e3
    rw [q3'] at e4
    rw [q4, q4', hr.st.inj x x' k k' b m m' q1 q1' e3 e4]
  · intro y k2 b m e1 e2
    obtain ⟨x, k, q1, _, q3, _⟩ := whr y k2 e1
    rw [q3] at e2
    exact hr.st.out x k b m q1 e2
  · intro y k2 e hp
    rcases row y k2 e with ⟨rfl, _⟩ | ⟨e0, e1, k, e2, _⟩
    · rw [not_pinned f5] at hp; cases hp
    · rw [other e0]; exact hr.st.pin y k e2 hp
  · have hnd := hr.nd.mono (Kept.refl _ _) fun b _ => hO b
    clear hO whr row
    generalize s.df = gs at hnd f4
    generalize a.defers = ds at hnd
    induction hnd with
    | nil => exact .nil
    | mark h1 h2 h3 h4 h5 h6 ih => exact .mark h1 h2 h3 h4 h5 (ih f4)
    | clo h1 h2 ih =>
      simp only [dfNo, Bool.and_eq_true, Bool.not_eq_true'] at f4
      exact .clo (mvG_spec h1 (upd_same _ _ _) fun y _ hh => other fun e => by subst e; rw [f4.1] at hh; cases hh) (ih f4.2)
  · intro t g hg
    obtain ⟨g0, e1, rfl⟩ := get_mvFr hg
    obtain ⟨v, hv, hrv⟩ := hr.fr t g0 e1
    exact ⟨v, hv, mvG_spec (hrv.mono (Kept.refl _ _) (fun b _ => hO b) (Nat.le_refl _)) (upd_same _ _ _) fun y _ hh => other fun e => by subst e; rw [frNo_get f2 e1] at hh; cases hh⟩

theorem GW.move {c : Code} (h h' : Nat) (hf : fresh s h' = true) (hne : Nat.beq h' h = false) (k : GW P N cx c Q { fr := mvFr h h' s.fr, st := mvSt h h' s.st, df := mvG.go h h' s.df }) : GW P N cx c Q s := fun _ a w hr => k _ a w (hr.move h h' hf hne)
theorem GL.move {ops : Array Oper} {rest : List Oper} (h h' : Nat) (hf : fresh s h' = true) (hne : Nat.beq h' h = false) (k : GL P N cx ops Q rest { fr := mvFr h h' s.fr, st := mvSt h h' s.st, df := mvG.go h h' s.df }) : GL P N cx ops Q rest s := fun _ a w hr => k _ a w (hr.move h h' hf hne)
end
end Go.AM
