/-
  AM, part K: contracts of functions; results; calls.
-/
import Derived.Test.YtllnemgkfdgljaaAmJ
set_option linter.unusedSectionVars false
set_option linter.unusedSimpArgs false
set_option linter.unusedVariables false
namespace Go.AM

def frameOf : List G → Nat → List (Nat × G)
  | [], _ => []
  | g :: r, j => (j, g) :: frameOf r (j + 1)

theorem get_frameOf : ∀ {gs : List G} {j t : Nat} {g : G}, get (frameOf gs j) t = some g → j ≤ t ∧ gs[t - j]? = some g
  | [], _, _, _, h => by cases h
  | x :: r, j, t, g, h => by
    simp only [frameOf, get_cons] at h
    cases hb : Nat.beq j t with
    | true => rw [hb] at h; cases h; have := Nat.eq_of_beq_eq_true hb; subst this; simp
    | false =>
      rw [hb] at h
      obtain ⟨h1, h2⟩ := get_frameOf (gs := r) h
      have hne : t ≠ j := fun e => by subst e; rw [Nat.beq_refl] at hb; cases hb
      refine ⟨by omega, ?_⟩
      have : t - j = (t - (j + 1)) + 1 := by omega
      rw [this, List.getElem?_cons_succ]
      exact h2

/-- The setting of a call that begins in 'w'. -/
def cx0 (X : Nat → Prop) (st : List (Nat × Blk)) (μ : Mu) (w : World) : Cx := ⟨X, Own st μ, w.heap.size, w, none, μ⟩

/-- What came of a call that began with these blocks in 'w': it returned, or passed a panic up. -/
def Came (X : Nat → Prop) (st : List (Nat × Blk)) (μ : Mu) (w : World) (Q : G → List (Nat × Blk) → Prop) (Qp : List PanicEntry → List (Nat × Blk) → Prop) (e : Ending) (w' : World) : Prop :=
  (∃ v r st' μ', e = .returned v ∧ Q r st' ∧ RelSt (cx0 X st μ w) μ' st' w' ∧ RepV ((cx0 X st μ w).O st' μ') w.heap.size w' μ' r v) ∨
  (∃ c st' μ', e = .panicked c ∧ Qp c st' ∧ RelSt (cx0 X st μ w) μ' st' w')

/-- A CONTRACT: called with what reads as 'args', with the blocks 'st' to write to, it returns: 'Q' of the result and of the blocks; or it passes a panic up: 'Qp' of it and of the blocks. -/
def GP (P : Program) (f : FuncId) (args : List G) (st : List (Nat × Blk)) (Q : G → List (Nat × Blk) → Prop) (Qp : List PanicEntry → List (Nat × Blk) → Prop) : Prop :=
  ∀ (X : Nat → Prop) (μ : Mu) (w : World) (vs : List Value), (∀ b, X b → b < w.heap.size) → RelSt (cx0 X st μ w) μ st w → vs.length = args.length →
    (∀ (j : Nat) (g : G) (v : Value), args[j]? = some g → vs[j]? = some v → RepV ((cx0 X st μ w).O st μ) w.heap.size w μ g v) →
    Calls P f vs.toArray w (Came X st μ w Q Qp)

/-- A contract of a function that does not panic. -/
def GM (P : Program) (f : FuncId) (args : List G) (st : List (Nat × Blk)) (Q : G → List (Nat × Blk) → Prop) : Prop := GP P f args st Q fun _ _ => False

theorem Came.mono {X : Nat → Prop} {st : List (Nat × Blk)} {μ : Mu} {w : World} {Q Q' : G → List (Nat × Blk) → Prop} {Qp Qp' : List PanicEntry → List (Nat × Blk) → Prop} {e : Ending} {w' : World} (h : Came X st μ w Q Qp e w')
    (hq : ∀ r st, Q r st → Q' r st) (hp : ∀ c st, Qp c st → Qp' c st) : Came X st μ w Q' Qp' e w' := by
  rcases h with ⟨v, r, st', μ', h1, h2, h3⟩ | ⟨c, st', μ', h1, h2, h3⟩
  · exact .inl ⟨v, r, st', μ', h1, hq _ _ h2, h3⟩
  · exact .inr ⟨c, st', μ', h1, hp _ _ h2, h3⟩

theorem GP.mono {P : Program} {f : FuncId} {args : List G} {st : List (Nat × Blk)} {Q Q' : G → List (Nat × Blk) → Prop} {Qp Qp' : List PanicEntry → List (Nat × Blk) → Prop} (h : GP P f args st Q Qp)
    (hq : ∀ r st, Q r st → Q' r st) (hp : ∀ c st, Qp c st → Qp' c st) : GP P f args st Q' Qp' :=
  fun X μ w vs h1 h2 h3 h4 => (h X μ w vs h1 h2 h3 h4).mono fun _ _ hc => hc.mono hq hp

theorem GM.mono {P : Program} {f : FuncId} {args : List G} {st : List (Nat × Blk)} {Q Q' : G → List (Nat × Blk) → Prop} (h : GM P f args st Q) (hq : ∀ r st, Q r st → Q' r st) : GM P f args st Q' :=
  GP.mono h hq fun _ _ h => h

theorem GM.returned {P : Program} {f : FuncId} {args : List G} {st : List (Nat × Blk)} {Q : G → List (Nat × Blk) → Prop} (h : GM P f args st Q) (X : Nat → Prop) (μ : Mu) (w : World) (vs : List Value) (h1 : ∀ b, X b → b < w.heap.size) (h2 : RelSt (cx0 X st μ w) μ st w)
    (h3 : vs.length = args.length) (h4 : ∀ (j : Nat) (g : G) (v : Value), args[j]? = some g → vs[j]? = some v → RepV ((cx0 X st μ w).O st μ) w.heap.size w μ g v) :
    Calls P f vs.toArray w fun e w' => ∃ v r st' μ', e = .returned v ∧ Q r st' ∧ RelSt (cx0 X st μ w) μ' st' w' ∧ RepV ((cx0 X st μ w).O st' μ') w.heap.size w' μ' r v :=
  (h X μ w vs h1 h2 h3 h4).mono fun _ _ hc => hc.elim id fun ⟨_, _, _, _, h, _⟩ => h.elim

/-! ### Results -/

def resSem (a : Act) : ResultVar → Sem Value
  | .tmp t => pure (a.tmps.getD t undef)
  | .cell b t => do loadVar t (← asAddr (a.tmps.getD b undef))

def Res (P : Program) (s : St) (rv : ResultVar) (g : G) : Prop :=
  ∀ (N : Nat) (cx : Cx) (μ : Mu) (a : Act) (w : World), Rel N cx μ s a w → ∃ v, RepV (cx.O s.st μ) cx.base w μ g v ∧ (resSem a rv).run P w = .ok v w

def Ress (P : Program) (s : St) : List ResultVar → List G → Prop
  | [], [] => True
  | rv :: r, g :: gs => Res P s rv g ∧ Ress P s r gs
  | _, _ => False

def pack : List G → G
  | [g] => g
  | gs => .tup gs

section
variable {P : Program} {N : Nat} {cx : Cx} {s : St}

theorem Res.tmp {t : Nat} {g : G} (h : get s.fr t = some g) : Res P s (.tmp t) g := fun _ _ _ a w hr => by
  obtain ⟨v, hv, hrv⟩ := hr.fr t g h
  exact ⟨v, hrv, by simp [resSem, hv]⟩

theorem Res.cell {b t h off : Nat} {k : Blk} {g g' : G} (hb : get s.fr b = some (.loc h off)) (hk : sget s.st h = some k) (hg : k.cells[off]? = some g) (hag : ∀ w, (isAgg t).run P w = .ok false w) (ho : k.out g = g') (hlp : k.lp = none := by rfl) : Res P s (.cell b t) g' := fun N cx μ a w hr => by
  have hy := YL.load (P := P) (W := []) (dst := none) (ty := 0) (pos := "") (after := #[]) (guard := none) (x := .tmp b) (s := s) hb hk hg hag rfl ho hlp
  obtain ⟨v, hv, hrun⟩ := hy N cx μ a w hr
  have hrun := hrun w (Nat.le_refl _) fun _ _ _ => rfl
  obtain ⟨bb, m, e1, hm⟩ := Rel.loc hr (x := .tmp b) hb
  refine ⟨v, hv, ?_⟩
  have e2 : a.tmps.getD b undef = .pointer (some ⟨bb, off, none⟩) := e1
  simp only [execOp, Instr.loadAt, Instr.sureAddr, e1, Sem.run_bind, Sem.run_pure, Result.andThen_ok] at hrun
  simp only [resSem, e2, asAddr, Sem.run_bind, Sem.run_pure, Result.andThen_ok]
  cases hl : (loadVar t ⟨bb, off, none⟩).run P w with
  | ok x w1 => rw [hl] at hrun; simp at hrun; rw [hrun.1, hrun.2]
  | halt x w1 => rw [hl] at hrun; cases hrun

theorem Res.cellAgg {b t h off sz : Nat} {k : Blk} (hb : get s.fr b = some (.loc h off)) (hk : sget s.st h = some k) (hp : k.pure = false) (hag : ∀ w, (isAgg t).run P w = .ok true w) (hsz : ∀ w, (sizeOf t).run P w = .ok sz w)
    (hl : off + sz ≤ k.cells.length) (hlp : k.lp = none := by rfl) : Res P s (.cell b t) (.agg ((k.cells.drop off).take sz)) := fun N cx μ a w hr => by
  have hy := YL.loadAgg (P := P) (W := []) (dst := none) (ty := 0) (pos := "") (after := #[]) (guard := none) (x := .tmp b) (s := s) hb hk hp hag hsz hl rfl hlp
  obtain ⟨v, hv, hrun⟩ := hy N cx μ a w hr
  have hrun := hrun w (Nat.le_refl _) fun _ _ _ => rfl
  obtain ⟨bb, m, e1, hm⟩ := Rel.loc hr (x := .tmp b) hb
  refine ⟨v, hv, ?_⟩
  have e2 : a.tmps.getD b undef = .pointer (some ⟨bb, off, none⟩) := e1
  simp only [execOp, Instr.loadAt, Instr.sureAddr, e1, Sem.run_bind, Sem.run_pure, Result.andThen_ok] at hrun
  simp only [resSem, e2, asAddr, Sem.run_bind, Sem.run_pure, Result.andThen_ok]
  cases hl : (loadVar t ⟨bb, off, none⟩).run P w with
  | ok x w1 => rw [hl] at hrun; simp at hrun; rw [hrun.1, hrun.2]
  | halt x w1 => rw [hl] at hrun; cases hrun

theorem Ress.run : ∀ {rvs : List ResultVar} {gs : List G}, Ress P s rvs gs → ∀ {μ : Mu} {a : Act} {w : World}, Rel N cx μ s a w →
    ∃ vs : List Value, vs.length = gs.length ∧ (∀ (j : Nat) (g : G) (v : Value), gs[j]? = some g → vs[j]? = some v → RepV (cx.O s.st μ) cx.base w μ g v) ∧ (rvs.mapM (resSem a)).run P w = .ok vs w
  | [], [], _, _, _, _, _ => ⟨[], rfl, fun j g v h => by simp at h, rfl⟩
  | rv :: r, g :: gs, ⟨h1, h2⟩, μ, a, w, hr => by
    obtain ⟨v, hv, hrun⟩ := h1 N cx μ a w hr
    obtain ⟨vs, hl, hvs, hruns⟩ := h2.run hr
    refine ⟨v :: vs, by simp [hl], ?_, ?_⟩
    · intro j g' v' hg hv'
      cases j with
      | zero => cases hg; cases hv'; exact hv
      | succ j => exact hvs j g' v' hg hv'
    · simp [List.mapM_cons, hrun, hruns]
  | [], _ :: _, h, _, _, _, _ => h.elim
  | _ :: _, [], h, _, _, _, _ => h.elim

/-! ### What a call hands back: its own blocks as memory that is written no more -/
/-- The nil slice as an empty one. -/
def normV : Value → G
  | .slice none 0 0 => .fr (.sl 0 [])
  | v => .val v
theorem normV_rep {O : Nat → Prop} {base : Nat} {w : World} {μ : Mu} (v : Value) : RepV O base w μ (normV v) v := by
  unfold normV
  split
  · exact .fr .nil
  · exact .imm (.val _)

/-- The cells of a block as memory that is written no more; are they all fresh? -/
def immB (k : Blk) : Option (List G × Bool) := bif k.pure then some (k.cells, k.fresh) else immGs k.cells
theorem immB_spec {O : Nat → Prop} {base : Nat} {w : World} {μ : Mu} {k : Blk} {cs : List G} {f : Bool} (hi : immB k = some (cs, f)) : cs.length = k.cells.length ∧
    ∀ (j : Nat) (g' : G), cs[j]? = some g' → ∃ g, k.cells[j]? = some g ∧ ∀ v, RepC O base w μ k g v → RepI (bif f then Old O base else O) w g' v := by
  unfold immB at hi
  cases hp : k.pure with
  | true =>
    rw [hp] at hi
    cases hi
    refine ⟨rfl, fun j g hg => ⟨g, hg, fun v hv => ?_⟩⟩
    unfold RepC at hv
    rw [hp] at hv
    exact hv
  | false =>
    rw [hp] at hi
    obtain ⟨h1, h2⟩ := immGs_get hi
    refine ⟨h1, fun j g' hg' => ?_⟩
    obtain ⟨g, f', h3, h4, h5⟩ := h2 j g' hg'
    refine ⟨g, h3, fun v hv => ?_⟩
    unfold RepC at hv
    rw [hp] at hv
    exact (immG_spec hv h4).flag h5

def fzG (st st' : List (Nat × Blk)) : G → Option G
  | .osl h sz off n => match sget st' h with
    | some _ => some (.osl h sz off n)
    | none => match sget st h with
      | some k => match k.pure, k.mine, k.lp with
        | true, true, none => some (bif k.fresh then .fr (.sl n ((k.cells.drop off).take (n * sz))) else .sl n ((k.cells.drop off).take (n * sz)))
        | _, _, _ => none
      | none => none
  | .loc h off => match sget st' h with
    | some _ => some (.loc h off)
    | none => match sget st h with
      | some k => match k.mine, k.lp, immB k with
        | true, none, some (cs, f) => some (bif f then .fr (.ptr (cs.drop off)) else .ptr (cs.drop off))
        | _, _, _ => none
      | none => none
  | .agg gs => (go gs).map .agg
  | .tup gs => (go gs).map .tup
  | .clo f gs => (go gs).map (.clo f)
  | .yld _ => none
  | .val v => some (normV v)
  | g => some g
where go : List G → Option (List G)
  | [] => some []
  | g :: r => match fzG st st' g, go r with
    | some g', some r' => some (g' :: r')
    | _, _ => none

theorem fzG_go_get {st st' : List (Nat × Blk)} : ∀ {gs gs' : List G}, fzG.go st st' gs = some gs' → gs'.length = gs.length ∧ ∀ (j : Nat) (g' : G), gs'[j]? = some g' → ∃ g, gs[j]? = some g ∧ fzG st st' g = some g'
  | [], _, h => by cases h; exact ⟨rfl, fun j g h => by simp at h⟩
  | g :: r, gs', h => by
    simp only [fzG.go] at h
    cases h1 : fzG st st' g with
    | none => rw [h1] at h; cases h
    | some g1 =>
      rw [h1] at h
      cases h2 : fzG.go st st' r with
      | none => rw [h2] at h; cases h
      | some r1 =>
        rw [h2] at h
        cases h
        obtain ⟨h3, h4⟩ := fzG_go_get h2
        refine ⟨by simp [h3], fun j g' hg' => ?_⟩
        cases j with
        | zero => cases hg'; exact ⟨g, rfl, h1⟩
        | succ j => exact h4 j g' hg'

theorem fzG_imm {st st' : List (Nat × Blk)} {O : Nat → Prop} {base : Nat} {μ : Mu} {w : World} {g g' : G} {v : Value} (h : RepI O w g v) (hf : fzG st st' g = some g') : RepV O base w μ g' v := by
  induction h generalizing g' with
  | any v => cases hf; exact .imm (.any _)
  | val v => cases hf; exact normV_rep v
  | nil => cases hf; exact .imm .nil
  | emp a c => cases hf; exact .imm (.emp a c)
  | sl n cells b off cap us h1 h2 h3 h4 h5 ih => cases hf; exact .imm (.sl n cells b off cap us h1 h2 h3 h4 h5)
  | ptr cells b off us h1 h2 h3 h4 ih => cases hf; exact .imm (.ptr cells b off us h1 h2 h3 h4)
  | agg cells us hl hr ih =>
    simp only [fzG, Option.map_eq_some_iff] at hf
    obtain ⟨gs', h1, rfl⟩ := hf
    obtain ⟨h2, h3⟩ := fzG_go_get h1
    refine .agg gs' us (by omega) fun j g v hg hv => ?_
    obtain ⟨g0, h4, h5⟩ := h3 j g hg
    exact ih j g0 v h4 hv h5

theorem fzG_spec {st st' : List (Nat × Blk)} {μ : Mu} {w : World} (hst : RelSt cx μ st w) (hs : ∀ h k, sget st' h = some k → ∃ k0, sget st h = some k0) {g g' : G} {v : Value} (hv : RepV (cx.O st μ) cx.base w μ g v) (hf : fzG st st' g = some g') :
    RepV (cx.O st' μ) cx.base w μ g' v := by
  have hO : ∀ b, b < w.heap.size → ¬ cx.O st μ b → ¬ cx.O st' μ b := fun b _ hn ho => hn (ho.imp id fun ⟨x, k, m, h1, h2⟩ => let ⟨k0, h3⟩ := hs x k h1; ⟨x, k0, m, h3, h2⟩)
  induction hv generalizing g' with
  | imm h =>
    exact fzG_imm (h.mono (Kept.refl _ _) hO) hf
  | fr h =>
    cases hf
    refine .fr (h.mono (Kept.refl _ _) ?_)
    rintro b hb hn (ho | ho)
    · exact hn (.inl ho)
    · exact hO b hb (fun h => hn (.inr h)) ho
  | loc h off b m hm =>
    simp only [fzG] at hf
    split at hf
    · cases hf; exact .loc h off b m hm
    · rename_i hnone
      split at hf
      · rename_i k hk
        split at hf
        · rename_i cells f hmine hlp hi
          cases hf
          have hb := hst.blk h k hk
          rw [hm] at hb
          obtain ⟨cs, h1, h2, h3, h4, h5, h6⟩ := hb.cells hlp
          have hbO : ¬ cx.O st' μ b := by
            rintro (hx | ⟨x, k1, m1, h7, h8⟩)
            · exact (hst.out h k b m hk hm).1 hx
            · obtain ⟨k9, h79⟩ := hs x k1 h7
              have := hst.inj h x k k9 b m m1 hk h79 hm h8
              subst this
              rw [hnone] at h7
              cases h7
          obtain ⟨i1, i2⟩ := immB_spec (O := cx.O st μ) (base := cx.base) (w := w) (μ := μ) hi
          have rd : ∀ (j : Nat) (g : G), (cells.drop off)[j]? = some g → ∃ v, cs[off + j]? = some v ∧ RepI (bif f then Old (cx.O st' μ) cx.base else cx.O st' μ) w g v := by
            intro j g hg
            rw [List.getElem?_drop] at hg
            obtain ⟨g0, h7, h8⟩ := i2 _ g hg
            obtain ⟨v, hv, hrv⟩ := h6 _ g0 h7
            refine ⟨v, hv, ?_⟩
            have h9 := h8 v hrv
            cases f with
            | true =>
              refine RepI.mono h9 (Kept.refl _ _) ?_
              rintro b hb hn (ho | ho)
              · exact hn (.inl ho)
              · exact hO b hb (fun h => hn (.inr h)) ho
            | false => exact RepI.mono h9 (Kept.refl _ _) hO
          have hc1 : ∀ j, j < (cells.drop off).length → w.cell? ⟨b, off + j, none⟩ = some (cs.getD (off + j) undef) := by
            intro j hj
            obtain ⟨v, hv, _⟩ := rd j _ (List.getElem?_eq_getElem hj)
            rw [cell_of h1, hv]
            simp [hv]
          have hr1 : ∀ (j : Nat) (g : G), (cells.drop off)[j]? = some g → RepI (bif f then Old (cx.O st' μ) cx.base else cx.O st' μ) w g (cs.getD (off + j) undef) := by
            intro j g hg
            obtain ⟨v, hv, hrv⟩ := rd j g hg
            simpa [hv] using hrv
          cases f with
          | true =>
            refine .fr (.ptr _ b off (fun j => cs.getD (off + j) undef) ?_ (lt_of_heap h1) hc1 hr1)
            rintro (ho | ho)
            · have := h4 hmine; omega
            · exact hbO ho
          | false => exact .imm (.ptr _ b off (fun j => cs.getD (off + j) undef) hbO (lt_of_heap h1) hc1 hr1)
        · cases hf
      · cases hf
  | onil h sz hm =>
    simp only [fzG] at hf
    split at hf
    · cases hf; exact .onil h sz hm
    · split at hf
      · rename_i k hk
        split at hf
        · cases hf
          have hb := hst.blk h k hk
          rw [hm] at hb
          simp only [RelBlk] at hb
          obtain ⟨hb, _⟩ := hb
          simp only [hb, List.drop_nil, List.take_nil]
          cases k.fresh with
          | true => exact .fr .nil
          | false => exact .imm .nil
        · cases hf
      · cases hf
  | osl h sz off n b m cap hm hn hc =>
    simp only [fzG] at hf
    split at hf
    · cases hf; exact .osl h sz off n b m cap hm hn hc
    · rename_i hnone
      split at hf
      · rename_i k hk
        split at hf
        · rename_i hp hmine hlp
          cases hf
          have hb := hst.blk h k hk
          rw [hm] at hb
          obtain ⟨cs, h1, h2, h3, h4, h5, h6⟩ := hb.cells hlp
          have hbO : ¬ cx.O st' μ b := by
            rintro (hx | ⟨x, k1, m1, h7, h8⟩)
            · exact (hst.out h k b m hk hm).1 hx
            · obtain ⟨k9, h79⟩ := hs x k1 h7
              have := hst.inj h x k k9 b m m1 hk h79 hm h8
              subst this
              rw [hnone] at h7
              cases h7
          have hlen : ((k.cells.drop off).take (n * sz)).length ≤ cs.size - off := by
            rw [List.length_take, List.length_drop]; omega
          have hc1 : ∀ j, j < ((k.cells.drop off).take (n * sz)).length → w.cell? ⟨b, off + j, none⟩ = some (cs.getD (off + j) undef) := by
            intro j hj
            rw [cell_of h1]
            have : off + j < cs.size := by omega
            simp [this]
          have hr1 : ∀ (j : Nat) (g : G), ((k.cells.drop off).take (n * sz))[j]? = some g → RepI (bif k.fresh then Old (cx.O st' μ) cx.base else cx.O st' μ) w g (cs.getD (off + j) undef) := by
            intro j g hg
            rw [List.getElem?_take] at hg
            split at hg
            · rw [List.getElem?_drop] at hg
              obtain ⟨v, hv, hrv⟩ := h6 _ g hg
              have e : cs.getD (off + j) undef = v := by simp [hv]
              rw [e]
              unfold RepC at hrv
              rw [hp] at hrv
              cases hfr : k.fresh with
              | true =>
                rw [hfr] at hrv
                refine RepI.mono hrv (Kept.refl _ _) ?_
                rintro b hb hn (ho | ho)
                · exact hn (.inl ho)
                · exact hO b hb (fun h => hn (.inr h)) ho
              | false => rw [hfr] at hrv; exact RepI.mono hrv (Kept.refl _ _) hO
            · cases hg
          cases hfr : k.fresh with
          | true =>
            rw [hfr] at hr1
            refine .fr (.sl n _ b off cap _ hn ?_ (lt_of_heap h1) hc1 hr1)
            rintro (ho | ho)
            · have := h4 hmine; omega
            · exact hbO ho
          | false =>
            rw [hfr] at hr1
            exact .imm (.sl n _ b off cap _ hn hbO (lt_of_heap h1) hc1 hr1)
        · cases hf
      · cases hf
  | ozero h sz off0 b m hm hpos =>
    simp only [fzG] at hf
    split at hf
    · cases hf; exact .ozero h sz off0 b m hm hpos
    · rename_i hnone
      split at hf
      · rename_i k hk
        split at hf
        · rename_i hp hmine hlp
          cases hf
          have hb := hst.blk h k hk
          rw [hm] at hb
          obtain ⟨cs, h1, h2, h3, h4, h5, h6⟩ := hb.cells hlp
          have hbO : ¬ cx.O st' μ b := by
            rintro (hx | ⟨x, k1, m1, h7, h8⟩)
            · exact (hst.out h k b m hk hm).1 hx
            · obtain ⟨k9, h79⟩ := hs x k1 h7
              have := hst.inj h x k k9 b m m1 hk h79 hm h8
              subst this
              rw [hnone] at h7
              cases h7
          simp only [Nat.zero_mul, List.take_zero]
          cases hfr : k.fresh with
          | true =>
            refine .fr (.sl 0 [] b off0 0 (fun _ => undef) (Nat.le_refl _) ?_ (lt_of_heap h1) (fun j hj => by simp at hj) (fun j g hg => by simp at hg))
            rintro (ho | ho)
            · have := h4 hmine; omega
            · exact hbO ho
          | false => exact .imm (.sl 0 [] b off0 0 (fun _ => undef) (Nat.le_refl _) hbO (lt_of_heap h1) (fun j hj => by simp at hj) (fun j g hg => by simp at hg))
        · cases hf
      · cases hf
  | agg cells us hl hr ih =>
    simp only [fzG, Option.map_eq_some_iff] at hf
    obtain ⟨gs', h1, rfl⟩ := hf
    obtain ⟨h2, h3⟩ := fzG_go_get h1
    refine .agg gs' us (by omega) fun j g v hg hv => ?_
    obtain ⟨g0, h4, h5⟩ := h3 j g hg
    exact ih j g0 v h4 hv h5
  | tup cells us hl hr ih =>
    simp only [fzG, Option.map_eq_some_iff] at hf
    obtain ⟨gs', h1, rfl⟩ := hf
    obtain ⟨h2, h3⟩ := fzG_go_get h1
    refine .tup gs' us (by omega) fun j g v hg hv => ?_
    obtain ⟨g0, h4, h5⟩ := h3 j g hg
    exact ih j g0 v h4 hv h5
  | clo f caps us hl hr ih =>
    simp only [fzG, Option.map_eq_some_iff] at hf
    obtain ⟨gs', h1, rfl⟩ := hf
    obtain ⟨h2, h3⟩ := fzG_go_get h1
    refine .clo f gs' us (by omega) fun j g v hg hv => ?_
    obtain ⟨g0, h4, h5⟩ := h3 j g hg
    exact ih j g0 v h4 hv h5
  | yld h b m hm => cases hf

end
end Go.AM
