/-
  AM, part X: calls to which blocks of the caller's own are lent: how handles are told anew, there and back.
-/
import Derived.Test.YtllnemgkfdgljaaAmW
set_option linter.unusedSectionVars false
set_option linter.unusedSimpArgs false
set_option linter.unusedVariables false
namespace Go.AM

/-! ### There -/
def idxH : List Nat → Nat → Option Nat
  | [], _ => none
  | x :: r, h => bif Nat.beq x h then some 0 else (idxH r h).map (· + 1)
theorem idxH_some : ∀ {H : List Nat} {h i : Nat}, idxH H h = some i → H[i]? = some h
  | [], _, _, e => by cases e
  | x :: r, h, i, e => by
    simp only [idxH] at e
    cases hb : Nat.beq x h with
    | true => rw [hb] at e; cases e; have := Nat.eq_of_beq_eq_true hb; subst this; rfl
    | false =>
      rw [hb] at e
      obtain ⟨n, h1, h2⟩ := Option.map_eq_some_iff.1 e
      subst h2
      exact idxH_some (H := r) h1
theorem idxH_none : ∀ {H : List Nat} {h : Nat}, idxH H h = none → h ∉ H
  | [], _, _ => fun h => by cases h
  | x :: r, h, e => by
    simp only [idxH] at e
    cases hb : Nat.beq x h with
    | true => rw [hb] at e; cases e
    | false =>
      rw [hb] at e
      intro hm
      rcases List.mem_cons.1 hm with rfl | hm
      · rw [Nat.beq_refl] at hb; cases hb
      · exact idxH_none (Option.map_eq_none_iff.1 e) hm

/-- How a value of the caller's reads to the callee: the handles of 'H' are lent, the blocks 'stv' may be looked at. -/
def lendG (H : List Nat) (stv : List (Nat × Blk)) : G → Option G
  | .loc h off => match idxH H h with
    | some i => some (.loc (1000 + i) off)
    | none => view 4 stv (.loc h off)
  | .osl h sz off m => match idxH H h with
    | some i => some (.osl (1000 + i) sz off m)
    | none => view 4 stv (.osl h sz off m)
  | .yld h => match idxH H h with
    | some i => some (.yld (1000 + i))
    | none => none
  | .agg gs => (go gs).map .agg
  | .clo f gs => (go gs).map (.clo f)
  | .val v => some (viewV v)
  | .sl n cs => some (.sl n cs)
  | .ptr cs => some (.ptr cs)
  | .fr g => some g
  | _ => none
where go : List G → Option (List G)
  | [] => some []
  | g :: r => match lendG H stv g, go r with
    | some g', some r' => some (g' :: r')
    | _, _ => none

theorem lendG_go {H : List Nat} {stv : List (Nat × Blk)} : ∀ {gs gs' : List G}, lendG.go H stv gs = some gs' → gs'.length = gs.length ∧ ∀ (j : Nat) (g' : G), gs'[j]? = some g' → ∃ g, gs[j]? = some g ∧ lendG H stv g = some g'
  | [], _, h => by cases h; exact ⟨rfl, fun j g h => by simp at h⟩
  | g :: r, gs', h => by
    simp only [lendG.go] at h
    cases h1 : lendG H stv g with
    | none => rw [h1] at h; cases h
    | some g1 =>
      rw [h1] at h
      cases h2 : lendG.go H stv r with
      | none => rw [h2] at h; cases h
      | some r1 =>
        rw [h2] at h
        cases h
        obtain ⟨h3, h4⟩ := lendG_go h2
        refine ⟨by simp [h3], fun j g' hg' => ?_⟩
        cases j with
        | zero => cases hg'; exact ⟨g, rfl, h1⟩
        | succ j => exact h4 j g' hg'

def lendB (H : List Nat) (stv : List (Nat × Blk)) (k : Blk) : Option Blk :=
  bif k.pure then some { k with mine := false, fresh := false } else match lendG.go H stv k.cells with
    | some cs => some { k with mine := false, fresh := false, cells := cs }
    | none => none
def lendSt (H : List Nat) (stv st : List (Nat × Blk)) : List Nat → Nat → Option (List (Nat × Blk))
  | [], _ => some []
  | h :: r, i => match sget st h with
    | some k => match lendB H stv k, lendSt H stv st r (i + 1) with
      | some k', some r' => some ((1000 + i, k') :: r')
      | _, _ => none
    | none => none
theorem lendSt_get {H : List Nat} {stv st : List (Nat × Blk)} : ∀ {r : List Nat} {i : Nat} {stC : List (Nat × Blk)}, lendSt H stv st r i = some stC → ∀ {j : Nat} {k' : Blk}, sget stC j = some k' →
    ∃ n h k, j = 1000 + (i + n) ∧ r[n]? = some h ∧ sget st h = some k ∧ lendB H stv k = some k'
  | [], _, _, e, _, _, h => by cases e; cases h
  | x :: r, i, stC, e, j, k', h => by
    simp only [lendSt] at e
    cases hk : sget st x with
    | none => rw [hk] at e; cases e
    | some k =>
      rw [hk] at e
      dsimp only at e
      cases h1 : lendB H stv k with
      | none => rw [h1] at e; cases e
      | some k1 =>
        rw [h1] at e
        cases h2 : lendSt H stv st r (i + 1) with
        | none => rw [h2] at e; cases e
        | some r' =>
          rw [h2] at e
          cases e
          simp only [sget] at h
          cases hb : Nat.beq (1000 + i) j with
          | true =>
            rw [hb] at h
            cases h
            exact ⟨0, x, k, (Nat.eq_of_beq_eq_true hb).symm, rfl, hk, h1⟩
          | false =>
            rw [hb] at h
            obtain ⟨n, y, k2, e1, e2, e3, e4⟩ := lendSt_get h2 h
            exact ⟨n + 1, y, k2, by omega, e2, e3, e4⟩
theorem lendSt_dom {H : List Nat} {stv st : List (Nat × Blk)} : ∀ {r : List Nat} {i : Nat} {stC : List (Nat × Blk)}, lendSt H stv st r i = some stC → ∀ {n h : Nat}, r[n]? = some h → (∃ k', sget stC (1000 + (i + n)) = some k') ∧ ∃ k, sget st h = some k
  | [], _, _, _, _, _, h => by cases h
  | x :: r, i, stC, e, n, y, h => by
    simp only [lendSt] at e
    cases hk : sget st x with
    | none => rw [hk] at e; cases e
    | some k =>
      rw [hk] at e
      dsimp only at e
      cases h1 : lendB H stv k with
      | none => rw [h1] at e; cases e
      | some k1 =>
        rw [h1] at e
        cases h2 : lendSt H stv st r (i + 1) with
        | none => rw [h2] at e; cases e
        | some r' =>
          rw [h2] at e
          cases e
          cases n with
          | zero => cases h; exact ⟨⟨k1, by rw [Nat.add_zero, sget_cons_same]⟩, k, hk⟩
          | succ n =>
            obtain ⟨⟨k', h3⟩, h4⟩ := lendSt_dom h2 (n := n) (h := y) h
            refine ⟨⟨k', ?_⟩, h4⟩
            rw [sget_cons_other _ _ (by omega), show 1000 + (i + (n + 1)) = 1000 + (i + 1 + n) by omega]
            exact h3

def muC (H : List Nat) (μ : Mu) : Mu := fun j => bif pinned j then (H[j - 1000]?).bind μ else none
theorem pinned_add (i : Nat) : pinned (1000 + i) = true := Nat.ble_eq_true_of_le (by omega)
theorem muC_at {H : List Nat} {μ : Mu} {i h : Nat} (e : H[i]? = some h) : muC H μ (1000 + i) = μ h := by
  unfold muC
  rw [pinned_add, cond_true, show 1000 + i - 1000 = i by omega, e]
  rfl

/-- The blocks that are not lent. -/
def outSt (H : List Nat) : List (Nat × Blk) → List (Nat × Blk)
  | [] => []
  | (h, k) :: r => match idxH H h with
    | some _ => outSt H r
    | none => (h, k) :: outSt H r
theorem outSt_get {H : List Nat} {h : Nat} {k : Blk} : ∀ {st : List (Nat × Blk)}, sget (outSt H st) h = some k → idxH H h = none ∧ sget st h = some k
  | [], e => by cases e
  | (x, k') :: r, e => by
    simp only [outSt] at e
    cases hx : idxH H x with
    | some i =>
      rw [hx] at e
      obtain ⟨h1, h2⟩ := outSt_get e
      refine ⟨h1, ?_⟩
      rw [sget_cons_other _ _ fun e => by subst e; rw [hx] at h1; cases h1]
      exact h2
    | none =>
      rw [hx] at e
      simp only [sget] at e ⊢
      cases hb : Nat.beq x h with
      | true =>
        rw [hb] at e
        have := Nat.eq_of_beq_eq_true hb
        subst this
        exact ⟨hx, e⟩
      | false => rw [hb] at e; exact outSt_get e
theorem outSt_of {H : List Nat} {h : Nat} {k : Blk} (hi : idxH H h = none) : ∀ {st : List (Nat × Blk)}, sget st h = some k → sget (outSt H st) h = some k
  | [], e => by cases e
  | (x, k') :: r, e => by
    simp only [outSt]
    simp only [sget] at e
    cases hb : Nat.beq x h with
    | true =>
      rw [hb] at e
      have := Nat.eq_of_beq_eq_true hb
      subst this
      rw [hi]
      simp only [sget, Nat.beq_refl]
      exact e
    | false =>
      rw [hb] at e
      have := outSt_of hi (st := r) e
      split
      · exact this
      · simp only [sget, hb]; exact this

/-- What the callee may not lean on: what the caller may not; and, unless it only looks ('vw'), what is the caller's and not lent. -/
def lendX (cx : Cx) (st : List (Nat × Blk)) (μ : Mu) (H : List Nat) (vw : Bool) : Nat → Prop := fun b => cx.X b ∨ (vw = false ∧ Own (outSt H st) μ b)
def lendV (st : List (Nat × Blk)) (H : List Nat) (vw : Bool) : List (Nat × Blk) := bif vw then outSt H st else []

section
variable {P : Program} {N : Nat} {cx : Cx} {s : St}

theorem own_lent {st stC stv : List (Nat × Blk)} {H : List Nat} {μ : Mu} (hls : lendSt H stv st H 0 = some stC) {b : Nat} (ho : Own stC (muC H μ) b) : ∃ (i h : Nat) (k : Blk) (m : Nat), H[i]? = some h ∧ sget st h = some k ∧ μ h = some (b, m) := by
  obtain ⟨j, k', m, h1, h2⟩ := ho
  obtain ⟨n, h, k, rfl, e2, e3, _⟩ := lendSt_get hls h1
  rw [Nat.zero_add, muC_at e2] at h2
  exact ⟨n, h, k, m, e2, e3, h2⟩
theorem own_out {st : List (Nat × Blk)} {H : List Nat} {μ : Mu} {b : Nat} (ho : Own (outSt H st) μ b) : ∃ h k m, idxH H h = none ∧ sget st h = some k ∧ μ h = some (b, m) := by
  obtain ⟨h, k, m, h1, h2⟩ := ho
  obtain ⟨h3, h4⟩ := outSt_get h1
  exact ⟨h, k, m, h3, h4, h2⟩
theorem mem_of_idx {H : List Nat} {i h : Nat} (e : H[i]? = some h) : h ∈ H := List.mem_of_getElem? e
theorem not_both {st : List (Nat × Blk)} {H : List Nat} {μ : Mu} {w : World} (hst : RelSt cx μ st w) {i h h' b m m' : Nat} {k k' : Blk} (e : H[i]? = some h) (hk : sget st h = some k) (hm : μ h = some (b, m)) (e' : idxH H h' = none) (hk' : sget st h' = some k') (hm' : μ h' = some (b, m')) : False := by
  have := hst.inj h h' k k' b m m' hk hk' hm hm'
  subst this
  exact idxH_none e' (mem_of_idx e)

theorem lendO {st stC stv : List (Nat × Blk)} {H : List Nat} {μ : Mu} (vw : Bool) (hls : lendSt H stv st H 0 = some stC) (w : World) (b : Nat) (ho : (cx0 (lendX cx st μ H vw) stC (muC H μ) w).O stC (muC H μ) b) : cx.O st μ b := by
  rcases ho with (ho | ⟨_, ho⟩) | ho
  · exact .inl ho
  · obtain ⟨h, k, m, _, h2, h3⟩ := own_out ho; exact .inr ⟨h, k, m, h2, h3⟩
  · obtain ⟨i, h, k, m, _, h2, h3⟩ := own_lent hls ho; exact .inr ⟨h, k, m, h2, h3⟩

theorem lendG_spec {st stC : List (Nat × Blk)} {H : List Nat} {vw : Bool} {μ : Mu} {w : World} (hst : RelSt cx μ st w) (hls : lendSt H (lendV st H vw) st H 0 = some stC) {g g' : G} {v : Value} (hv : RepV (cx.O st μ) cx.base w μ g v)
    (hg : lendG H (lendV st H vw) g = some g') : RepV ((cx0 (lendX cx st μ H vw) stC (muC H μ) w).O stC (muC H μ)) w.heap.size w (muC H μ) g' v := by
  have hO := lendO (cx := cx) (μ := μ) vw hls w
  generalize hOd : (cx0 (lendX cx st μ H vw) stC (muC H μ) w).O stC (muC H μ) = O' at hO
  have hstv : ∀ h k, sget (lendV st H vw) h = some k → vw = true ∧ idxH H h = none ∧ sget st h = some k := by
    intro h k hk
    unfold lendV at hk
    cases vw with
    | true => exact ⟨rfl, outSt_get hk⟩
    | false => cases hk
  have look : ∀ {g g' : G} {v : Value}, RepV (cx.O st μ) cx.base w μ g v → view 4 (lendV st H vw) g = some g' → RepI O' w g' v := by
    intro g g' v hv hg
    refine view_gen (fun h k hk => hst.blk h k (hstv h k hk).2.2) (fun h k b m hk hm ho => ?_) hO 4 hv hg
    obtain ⟨e0, e1, e2⟩ := hstv h k hk
    rw [← hOd] at ho
    rcases ho with (ho | ⟨ho, _⟩) | ho
    · exact (hst.out h k b m e2 hm).1 ho
    · rw [e0] at ho; cases ho
    · obtain ⟨i, h', k', m', h1, h2, h3⟩ := own_lent hls ho
      exact not_both hst h1 h2 h3 e1 e2 hm
  have imm : ∀ {g : G} {v : Value}, RepI (cx.O st μ) w g v → ∀ {g'}, lendG H (lendV st H vw) g = some g' → RepV O' w.heap.size w (muC H μ) g' v := by
    intro g v h
    induction h with
    | any v => intro g' hg; cases hg
    | val v => intro g' hg; cases hg; exact .imm (viewV_rep v)
    | nil => intro g' hg; cases hg; exact .imm .nil
    | emp a c => intro g' hg; cases hg; exact .imm (.emp a c)
    | sl n cells b off cap us h1 h2 h3 h4 h5 ih => intro g' hg; cases hg; exact .imm ((RepI.sl n cells b off cap us h1 h2 h3 h4 h5).mono (Kept.refl _ _) fun b _ hn ho => hn (hO b ho))
    | ptr cells b off us h1 h2 h3 h4 ih => intro g' hg; cases hg; exact .imm ((RepI.ptr cells b off us h1 h2 h3 h4).mono (Kept.refl _ _) fun b _ hn ho => hn (hO b ho))
    | agg cells us hl hr ih =>
      intro g' hg
      simp only [lendG, Option.map_eq_some_iff] at hg
      obtain ⟨gs', h1, rfl⟩ := hg
      obtain ⟨h2, h3⟩ := lendG_go h1
      refine .agg gs' us (by omega) fun j g v hg hv => ?_
      obtain ⟨g0, h4, h5⟩ := h3 j g hg
      exact ih j g0 v h4 hv h5
  induction hv generalizing g' with
  | imm h => exact imm h hg
  | fr h => cases hg; exact .imm (h.old.mono (Kept.refl _ _) fun b _ hn ho => hn (hO b ho))
  | loc h off b m hm =>
    simp only [lendG] at hg
    cases hi : idxH H h with
    | some i => rw [hi] at hg; cases hg; exact .loc _ _ b m (by rw [muC_at (idxH_some hi)]; exact hm)
    | none => rw [hi] at hg; exact .imm (look (.loc h off b m hm) hg)
  | onil h sz hm =>
    simp only [lendG] at hg
    cases hi : idxH H h with
    | some i => rw [hi] at hg; cases hg; exact .onil _ _ (by rw [muC_at (idxH_some hi)]; exact hm)
    | none => rw [hi] at hg; exact .imm (look (.onil h sz hm) hg)
  | osl h sz off n b m cap hm hn hc =>
    simp only [lendG] at hg
    cases hi : idxH H h with
    | some i => rw [hi] at hg; cases hg; exact .osl _ _ _ _ b m cap (by rw [muC_at (idxH_some hi)]; exact hm) hn hc
    | none => rw [hi] at hg; exact .imm (look (.osl h sz off n b m cap hm hn hc) hg)
  | ozero h sz off0 b m hm hpos =>
    simp only [lendG] at hg
    cases hi : idxH H h with
    | some i => rw [hi] at hg; cases hg; exact .ozero _ _ off0 b m (by rw [muC_at (idxH_some hi)]; exact hm) hpos
    | none => rw [hi] at hg; exact .imm (look (.ozero h sz off0 b m hm hpos) hg)
  | agg cells us hl hr ih =>
    simp only [lendG, Option.map_eq_some_iff] at hg
    obtain ⟨gs', h1, rfl⟩ := hg
    obtain ⟨h2, h3⟩ := lendG_go h1
    refine .agg gs' us (by omega) fun j g v hg hv => ?_
    obtain ⟨g0, h4, h5⟩ := h3 j g hg
    exact ih j g0 v h4 hv h5
  | tup cells us hl hr ih => cases hg
  | clo f caps us hl hr ih =>
    simp only [lendG, Option.map_eq_some_iff] at hg
    obtain ⟨gs', h1, rfl⟩ := hg
    obtain ⟨h2, h3⟩ := lendG_go h1
    refine .clo f gs' us (by omega) fun j g v hg hv => ?_
    obtain ⟨g0, h4, h5⟩ := h3 j g hg
    exact ih j g0 v h4 hv h5
  | yld h b m hm =>
    simp only [lendG] at hg
    cases hi : idxH H h with
    | some i => rw [hi] at hg; cases hg; exact .yld _ b m (by rw [muC_at (idxH_some hi)]; exact hm)
    | none => rw [hi] at hg; cases hg

theorem lend_rel {st stC : List (Nat × Blk)} {H : List Nat} {vw : Bool} {μ : Mu} {w : World} (hst : RelSt cx μ st w) (hls : lendSt H (lendV st H vw) st H 0 = some stC) (hnd : H.Nodup) :
    RelSt (cx0 (lendX cx st μ H vw) stC (muC H μ) w) (muC H μ) stC w := by
  have hO := lendO (cx := cx) (μ := μ) vw hls w
  refine { blk := ?_, inj := ?_, out := ?_, pin := fun _ _ _ _ => rfl, xlt := ?_, hb := Nat.le_refl _, os := rfl, tape := rfl, output := rfl, keep := fun _ _ _ => rfl }
  · intro j k' hk'
    obtain ⟨n, h, k, rfl, e2, e3, e4⟩ := lendSt_get hls hk'
    rw [Nat.zero_add, muC_at e2]
    have hb := hst.blk h k e3
    unfold lendB at e4
    cases hp : k.pure with
    | true =>
      rw [hp] at e4
      cases e4
      cases hm : μ h with
      | none => rw [hm] at hb; exact hb
      | some bm =>
        obtain ⟨b, m⟩ := bm
        rw [hm] at hb
        cases hl : k.lp with
        | none =>
          obtain ⟨cs, h1, h2, h3, h4, h5, h6⟩ := hb.cells hl
          refine .mk rfl ⟨cs, h1, h2, h3, (fun h => by cases h), h5, fun j g hg => ?_⟩
          obtain ⟨v, hv, hrv⟩ := h6 j g hg
          refine ⟨v, hv, ?_⟩
          unfold RepC at hrv ⊢
          simp only [hp] at hrv ⊢
          have hrv := hrv.flag (f' := false) (fun h => by cases h)
          exact RepI.mono hrv (Kept.refl _ _) fun b _ hn ho => hn (hO b ho)
        | some lp =>
          unfold RelBlk at hb
          rw [hl] at hb
          obtain ⟨D, vs, _, _, _, h4, _⟩ := hb
          rw [hp] at h4; cases h4
    | false =>
      rw [hp, cond_false] at e4
      cases hgo : lendG.go H (lendV st H vw) k.cells with
      | none => rw [hgo] at e4; cases e4
      | some cs' =>
        rw [hgo] at e4
        cases e4
        obtain ⟨q1, q2⟩ := lendG_go hgo
        cases hm : μ h with
        | none =>
          rw [hm] at hb
          obtain ⟨hb1, hb2⟩ := hb
          exact ⟨List.eq_nil_of_length_eq_zero (by simp only; rw [q1, hb1]; rfl), hb2⟩
        | some bm =>
          obtain ⟨b, m⟩ := bm
          rw [hm] at hb
          cases hl : k.lp with
          | none =>
            obtain ⟨cs, h1, h2, h3, h4, h5, h6⟩ := hb.cells hl
            refine .mk rfl ⟨cs, h1, h2, by simp only; omega, (fun h => by cases h), h5, fun j g hg => ?_⟩
            obtain ⟨g0, q3, q4⟩ := q2 j g hg
            obtain ⟨v, hv, hrv⟩ := h6 j g0 q3
            refine ⟨v, hv, ?_⟩
            unfold RepC at hrv ⊢
            simp only [hp] at hrv ⊢
            exact lendG_spec hst hls hrv q4
          | some lp =>
            unfold RelBlk at hb ⊢
            simp only [hl] at hb ⊢
            obtain ⟨D, vs, h1, h2, h3, h4, h5⟩ := hb
            refine ⟨D, vs, h1, h2, rfl, rfl, fun j t g ht hg => ?_⟩
            obtain ⟨g0, q3, q4⟩ := q2 j g hg
            obtain ⟨v, hv, hrv⟩ := h5 j t g0 ht q3
            exact ⟨v, hv, lendG_spec hst hls hrv q4⟩
  · intro j j' k1 k2 b m m' h1 h2 h3 h4
    obtain ⟨n, h, k, rfl, e2, e3, _⟩ := lendSt_get hls h1
    obtain ⟨n', h', k', rfl, e2', e3', _⟩ := lendSt_get hls h2
    rw [Nat.zero_add, muC_at e2] at h3
    rw [Nat.zero_add, muC_at e2'] at h4
    have := hst.inj h h' k k' b m m' e3 e3' h3 h4
    subst this
    have := (List.getElem?_inj (List.getElem?_eq_some_iff.1 e2).1 hnd).1 (e2.trans e2'.symm)
    subst this
    rfl
  · intro j k1 b m h1 h2
    obtain ⟨n, h, k, rfl, e2, e3, _⟩ := lendSt_get hls h1
    have hA : Own stC (muC H μ) b := ⟨_, _, _, h1, h2⟩
    rw [Nat.zero_add, muC_at e2] at h2
    refine ⟨?_, .inr hA⟩
    rintro (ho | ⟨_, ho⟩)
    · exact (hst.out h k b m e3 h2).1 ho
    · obtain ⟨h', k', m', q1, q2, q3⟩ := own_out ho
      exact not_both hst e2 e3 h2 q1 q2 q3
  · rintro b (ho | ⟨_, ho⟩)
    · have := hst.xlt b ho; have := hst.hb; show b < w.heap.size; omega
    · obtain ⟨h', k', m', q1, q2, q3⟩ := own_out ho
      exact own_lt hst ⟨h', k', m', q2, q3⟩

end
end Go.AM
