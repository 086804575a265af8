/-
  AM, part F: new blocks, stores.
-/
import Derived.Test.YtllnemgkfdgljaaAmE
set_option linter.unusedSectionVars false
set_option linter.unusedSimpArgs false
set_option linter.unusedVariables false
namespace Go.AM

def upd (μ : Mu) (h : Nat) (x : Option (Nat × Nat)) : Mu := fun k => if k = h then x else μ k
theorem upd_same (μ : Mu) (h : Nat) (x : Option (Nat × Nat)) : upd μ h x h = x := by simp [upd]
theorem upd_other {μ : Mu} {h k : Nat} {x : Option (Nat × Nat)} (hne : k ≠ h) : upd μ h x k = μ k := by simp [upd, hne]

def frNo (h : Nat) : List (Nat × G) → Bool
  | [] => true
  | (_, g) :: r => !(g.hasH h) && frNo h r
def stNo (h : Nat) : List (Nat × Blk) → Bool
  | [] => true
  | (_, k) :: r => (k.pure || !(G.hasH.go h k.cells)) && stNo h r
/-- Handle 'h' is named nowhere. -/
def fresh (s : St) (h : Nat) : Bool := (sget s.st h).isNone && (frNo h s.fr && (stNo h s.st && (dfNo h s.df && Nat.blt h 1000)))
theorem not_pinned {h : Nat} (hl : Nat.blt h 1000 = true) : pinned h = false := by
  unfold pinned
  simp [Nat.blt_eq] at hl
  cases hb : Nat.ble 1000 h with
  | false => rfl
  | true => have := Nat.le_of_ble_eq_true hb; omega

theorem frNo_get {h : Nat} {fr : List (Nat × G)} (hf : frNo h fr = true) {t : Nat} {g : G} (hg : get fr t = some g) : g.hasH h = false := by
  induction fr with
  | nil => cases hg
  | cons x r ih =>
    obtain ⟨k, g'⟩ := x
    simp only [frNo, Bool.and_eq_true, Bool.not_eq_true'] at hf
    rw [get_cons] at hg
    cases hk : Nat.beq k t with
    | true => rw [hk] at hg; cases hg; exact hf.1
    | false => rw [hk] at hg; exact ih hf.2 hg
theorem hasH_go_false {h : Nat} {cs : List G} (hf : G.hasH.go h cs = false) {g : G} (hg : g ∈ cs) : g.hasH h = false := by
  cases hh : g.hasH h with
  | false => rfl
  | true => rw [G.hasH_go hg hh] at hf; cases hf
theorem stNo_get {h : Nat} {st : List (Nat × Blk)} (hf : stNo h st = true) {x : Nat} {k : Blk} (hk : sget st x = some k) (hp : k.pure = false) {g : G} (hg : g ∈ k.cells) : g.hasH h = false := by
  induction st with
  | nil => cases hk
  | cons y r ih =>
    obtain ⟨z, k'⟩ := y
    simp only [stNo, Bool.and_eq_true] at hf
    simp only [sget] at hk
    cases hz : Nat.beq z x with
    | true =>
      rw [hz] at hk; cases hk
      have := hf.1
      rw [hp, Bool.false_or, Bool.not_eq_true'] at this
      exact hasH_go_false this hg
    | false => rw [hz] at hk; exact ih hf.2 hk

theorem RepC.remap {O : Nat → Prop} {base : Nat} {w : World} {μ μ' : Mu} {k : Blk} {g : G} {v : Value} (h : RepC O base w μ k g v)
    (hμ : k.pure = false → ∀ x, g.hasH x = true → μ' x = μ x) : RepC O base w μ' k g v := by
  unfold RepC at *
  cases hp : k.pure with
  | true => rw [hp] at h; exact h
  | false => rw [hp] at h; exact RepV.remap h (hμ hp)

section
variable {P : Program} {N : Nat} {cx : Cx} {s : St}
variable {ty : TypeId} {pos : String} {after : Array Edge} {guard : Option (Nat × Bool)}

theorem kept_alloc (O : Nat → Prop) (w : World) (o : Obj) : Kept O w (w.alloc o) := ⟨by simp, fun b hb _ => Go.RowKit.Below.heap_alloc w o b hb⟩

theorem sget_cons (h x : Nat) (k : Blk) (r : List (Nat × Blk)) : sget ((h, k) :: r) x = bif Nat.beq h x then some k else sget r x := rfl
theorem sget_cons_same (h : Nat) (k : Blk) (r : List (Nat × Blk)) : sget ((h, k) :: r) h = some k := by rw [sget_cons, Nat.beq_refl]; rfl
theorem sget_cons_other {h x : Nat} (k : Blk) (r : List (Nat × Blk)) (hne : x ≠ h) : sget ((h, k) :: r) x = sget r x := by
  rw [sget_cons]
  cases hb : Nat.beq h x with
  | false => rfl
  | true => exact absurd (Nat.eq_of_beq_eq_true hb).symm hne

theorem RelSt.alloc {μ : Mu} {st : List (Nat × Blk)} {w : World} (h : RelSt cx μ st w) {hd : Nat} {k : Blk} {cs : Array Value} (hfr : sget st hd = none) (hno : stNo hd st = true) (hpn : pinned hd = false) (hlp : k.lp = none)
    (hlen : k.cells.length ≤ cs.size) (hbt : k.sz ≠ 0 → cs.size ≤ maxLen * k.sz) (hcells : ∀ (j : Nat) (g : G), k.cells[j]? = some g → ∃ v, cs[j]? = some v ∧ RepC (cx.O st μ) cx.base w μ k g v) (hk : k.pure = false → ∀ g, g ∈ k.cells → g.hasH hd = false) :
    RelSt cx (upd μ hd (some (w.heap.size, cs.size))) ((hd, k) :: st) (w.alloc (.cells cs k.ety)) ∧
    (∀ b, b < w.heap.size → ¬ cx.O st μ b → ¬ cx.O ((hd, k) :: st) (upd μ hd (some (w.heap.size, cs.size))) b) := by
  have hO : ∀ b, b < w.heap.size → ¬ cx.O st μ b → ¬ cx.O ((hd, k) :: st) (upd μ hd (some (w.heap.size, cs.size))) b := by
    intro b hb hn ho
    rcases ho with ho | ⟨x, k', m, h1, h2⟩
    · exact hn (.inl ho)
    · by_cases e : x = hd
      · subst e; rw [upd_same] at h2; cases h2; omega
      · rw [sget_cons_other k st e] at h1; rw [upd_other e] at h2; exact hn (.inr ⟨x, k', m, h1, h2⟩)
  have hlt : ∀ x k' b m, sget st x = some k' → μ x = some (b, m) → b < w.heap.size := by
    intro x k' b m h1 h2
    have := h.blk x k' h1
    rw [h2] at this
    obtain ⟨⟨o, h3⟩, _⟩ := this.heap
    exact lt_of_heap h3
  have hkept := kept_alloc (cx.O st μ) w (.cells cs k.ety)
  refine ⟨{ blk := ?_, inj := ?_, out := ?_, pin := ?_, xlt := h.xlt, hb := ?_, os := h.os, tape := h.tape, output := h.output, keep := ?_ }, hO⟩
  · intro x k' h1
    by_cases e : x = hd
    · subst e
      rw [sget_cons_same] at h1; cases h1
      rw [upd_same]
      refine .mk hlp ⟨cs, heap_alloc_new w _, rfl, hlen, fun _ => h.hb, hbt, fun j g hg => ?_⟩
      obtain ⟨v, hv, hr⟩ := hcells j g hg
      refine ⟨v, hv, (hr.mono hkept hO).remap fun hp y hy => upd_other ?_⟩
      intro e
      subst e
      rw [hk hp g (List.mem_of_getElem? hg)] at hy
      cases hy
    · rw [sget_cons_other k st e] at h1
      rw [upd_other e]
      refine ((h.blk x k' h1).mono (fun b m hm => Go.RowKit.Below.heap_alloc w _ b (hlt x k' b m h1 hm)) hkept hO).remap fun hp g hg y hy => upd_other ?_
      intro e
      subst e
      rw [stNo_get hno h1 hp hg] at hy
      cases hy
  · intro x x' k1 k2 b m m' h1 h2 h3 h4
    by_cases e : x = hd
    · by_cases e' : x' = hd
      · rw [e, e']
      · subst e
        rw [upd_same] at h3; rw [upd_other e'] at h4; rw [sget_cons_other k st e'] at h2
        cases h3
        have := hlt x' k2 _ m' h2 h4
        omega
    · by_cases e' : x' = hd
      · subst e'
        rw [upd_same] at h4; rw [upd_other e] at h3; rw [sget_cons_other k st e] at h1
        cases h4
        have := hlt x k1 _ m h1 h3
        omega
      · rw [sget_cons_other k st e] at h1; rw [sget_cons_other k st e'] at h2; rw [upd_other e] at h3; rw [upd_other e'] at h4
        exact h.inj x x' k1 k2 b m m' h1 h2 h3 h4
  · intro x k' b m h1 h2
    by_cases e : x = hd
    · subst e
      rw [upd_same] at h2
      cases h2
      refine ⟨fun hx => ?_, .inl h.hb⟩
      have := h.xlt _ hx
      have := h.hb
      omega
    · rw [sget_cons_other k st e] at h1; rw [upd_other e] at h2
      exact h.out x k' b m h1 h2
  · intro x k1 h1 h2
    by_cases e : x = hd
    · subst e; rw [hpn] at h2; cases h2
    · rw [sget_cons_other k st e] at h1; rw [upd_other e]; exact h.pin x k1 h1 h2
  · simp only [World.size_alloc]; have := h.hb; omega
  · intro b hb hA
    rw [Go.RowKit.Below.heap_alloc w _ b (by have := h.hb; omega)]
    exact h.keep b hb hA

theorem step_alloc {μ : Mu} {st : List (Nat × Blk)} {w : World} {W : List Nat} {hd : Nat} {k : Blk} {cs : Array Value} (_hfr : sget st hd = none) :
    Step W st μ ((hd, k) :: st) (upd μ hd (some (w.heap.size, cs.size))) w (w.alloc (.cells cs k.ety)) := by
  refine ⟨by simp, fun b hb _ => Go.RowKit.Below.heap_alloc w _ b hb, fun h k' b m hw h1 hm => ?_⟩
  by_cases e : h = hd
  · subst e
    rw [upd_same] at hm
    cases hm
    exact .inr (Nat.le_refl _)
  · rw [sget_cons_other k st e] at h1
    rw [upd_other e] at hm
    exact .inl ⟨h, k', m, hw, h1, hm⟩

/-- A new block, whose address goes into slot 'd'. -/
theorem Rel.alloc {μ : Mu} {a : Act} {w : World} (h : Rel N cx μ s a w) {hd : Nat} {k : Blk} {cs : Array Value} (hfr : fresh s hd = true)
    (hlp : k.lp = none) (hlen : k.cells.length ≤ cs.size) (hbt : k.sz ≠ 0 → cs.size ≤ maxLen * k.sz) (hcells : ∀ (j : Nat) (g : G), k.cells[j]? = some g → ∃ v, cs[j]? = some v ∧ RepC (cx.O s.st μ) cx.base w μ k g v) (hk : k.pure = false → ∀ g, g ∈ k.cells → g.hasH hd = false) :
    Rel N cx (upd μ hd (some (w.heap.size, cs.size))) { fr := s.fr, st := (hd, k) :: s.st, df := s.df } a (w.alloc (.cells cs k.ety)) := by
  unfold fresh at hfr
  simp only [Bool.and_eq_true, Option.isNone_iff_eq_none] at hfr
  obtain ⟨h1, h2, h3, h5, h6⟩ := hfr
  obtain ⟨h4, hO⟩ := h.st.alloc h1 h3 (not_pinned h6) hlp hlen hbt hcells hk
  refine { st := h4, nd := (h.nd.mono (kept_alloc _ w _) hO).remap (fun g hg y hy => upd_other fun e => by subst e; rw [dfNo_mem h5 hg] at hy; cases hy), sz := h.sz, fr := fun t g hg => ?_ }
  obtain ⟨v, hv, hr⟩ := h.fr t g hg
  refine ⟨v, hv, (hr.mono (kept_alloc _ w _) hO (Nat.le_refl _)).remap fun y hy => upd_other ?_⟩
  intro e
  subst e
  rw [frNo_get h2 hg] at hy
  cases hy

/-- The cells of a value. -/
def gcells : G → List G
  | .agg gs => gs
  | .val v => v.cells.toList.map .val
  | .fr (.agg gs) => gs.map frG
  | g => [g]

def gok : G → Bool
  | .any => false
  | .fr (.val _) => false
  | .fr .any => false
  | _ => true

theorem RepV.cells {O : Nat → Prop} {base : Nat} {w : World} {μ : Mu} {g : G} {v : Value} (h : RepV O base w μ g v) (hg : gok g = true) :
    v.cells.size = (gcells g).length ∧ ∀ (j : Nat) (g' : G), (gcells g)[j]? = some g' → ∃ u, v.cells[j]? = some u ∧ RepV O base w μ g' u := by
  have one : ∀ (g : G) (v : Value), gcells g = [g] → v.cells = #[v] → RepV O base w μ g v →
      v.cells.size = (gcells g).length ∧ ∀ (j : Nat) (g' : G), (gcells g)[j]? = some g' → ∃ u, v.cells[j]? = some u ∧ RepV O base w μ g' u := by
    intro g v h1 h2 h3
    rw [h1, h2]
    refine ⟨rfl, fun j g' hg' => ?_⟩
    cases j with
    | zero => cases hg'; exact ⟨v, rfl, h3⟩
    | succ j => cases hg'
  have aggI : ∀ (O' : Nat → Prop) (gs : List G) (v : Value), RepI O' w (.agg gs) v → ∃ us : List Value, v = .agg us.toArray ∧ us.length = gs.length ∧ ∀ (j : Nat) (g : G) (v : Value), gs[j]? = some g → us[j]? = some v → RepI O' w g v := by
    intro O' gs v h
    cases h with
    | agg _ us hl hr => exact ⟨us, rfl, hl, hr⟩
  cases g with
  | any => cases hg
  | val u =>
    cases h with
    | imm h =>
      cases h
      refine ⟨by simp [gcells], fun j g' hg' => ?_⟩
      simp only [gcells, List.getElem?_map, Array.getElem?_toList] at hg'
      cases hu : v.cells[j]? with
      | none => rw [hu] at hg'; cases hg'
      | some x => rw [hu] at hg'; cases hg'; exact ⟨x, rfl, .imm (.val _)⟩
  | agg gs =>
    have key : ∃ us : List Value, v = .agg us.toArray ∧ us.length = gs.length ∧ ∀ (j : Nat) (g : G) (v : Value), gs[j]? = some g → us[j]? = some v → RepV O base w μ g v := by
      cases h with
      | imm h => obtain ⟨us, e, hl, hr⟩ := aggI _ _ _ h; exact ⟨us, e, hl, fun j g v h1 h2 => .imm (hr j g v h1 h2)⟩
      | agg _ us hl hr => exact ⟨us, rfl, hl, hr⟩
    obtain ⟨us, rfl, hl, hr⟩ := key
    refine ⟨by simpa [Value.cells, gcells] using hl, fun j g' hg' => ?_⟩
    have hj : j < us.length := by have := (List.getElem?_eq_some_iff.1 hg').1; simp only [gcells] at this; omega
    exact ⟨us[j], by simp [Value.cells, hj], hr j g' _ hg' (List.getElem?_eq_getElem hj)⟩
  | fr g =>
    cases h with
    | imm h => cases h
    | fr h =>
      cases g with
      | agg gs =>
        obtain ⟨us, rfl, hl, hr⟩ := aggI _ _ _ h
        refine ⟨by simpa [Value.cells, gcells] using hl, fun j g' hg' => ?_⟩
        simp only [gcells, List.getElem?_map] at hg'
        cases hgj : gs[j]? with
        | none => rw [hgj] at hg'; cases hg'
        | some g0 =>
          rw [hgj] at hg'
          cases hg'
          have hj : j < us.length := by have := (List.getElem?_eq_some_iff.1 hgj).1; omega
          exact ⟨us[j], by simp [Value.cells, hj], (hr j g0 _ hgj (List.getElem?_eq_getElem hj)).frG⟩
      | sl n cs => cases h <;> exact one _ _ rfl rfl (.fr (by first | exact .nil | (constructor <;> assumption)))
      | ptr cs => cases h <;> exact one _ _ rfl rfl (.fr (by constructor <;> assumption))
      | val u => cases hg
      | any => cases hg
      | _ => cases h
  | sl n cs =>
    cases h with
    | imm h => exact one _ _ rfl (by cases h <;> rfl) (.imm h)
  | ptr cs =>
    cases h with
    | imm h => exact one _ _ rfl (by cases h; rfl) (.imm h)
  | loc x off =>
    cases h with
    | imm h => cases h
    | loc _ _ b m hm => exact one _ _ rfl rfl (.loc x off b m hm)
  | osl x sz off n =>
    refine one _ _ rfl ?_ h
    cases h with
    | imm h => cases h
    | _ => rfl
  | clo f cs =>
    refine one _ _ rfl ?_ h
    cases h with
    | imm h => cases h
    | _ => rfl
  | tup cs =>
    refine one _ _ rfl ?_ h
    cases h with
    | imm h => cases h
    | _ => rfl
  | yld y =>
    refine one _ _ rfl ?_ h
    cases h with
    | imm h => cases h
    | _ => rfl

theorem gcells_hasH {g g' : G} {h : Nat} (hg' : g' ∈ gcells g) (hh : g'.hasH h = true) : g.hasH h = true := by
  cases g with
  | agg gs => simp only [gcells] at hg'; simp only [G.hasH]; exact G.hasH_go hg' hh
  | val v =>
    simp only [gcells, List.mem_map] at hg'
    obtain ⟨x, _, rfl⟩ := hg'
    cases hh
  | fr g =>
    have one : gcells (.fr g) = [.fr g] → False := fun e => by
      rw [e, List.mem_singleton] at hg'
      subst hg'
      cases hh
    cases g with
    | agg gs =>
      simp only [gcells, List.mem_map] at hg'
      obtain ⟨x, _, rfl⟩ := hg'
      cases x <;> cases hh
    | _ => exact (one rfl).elim
  | _ =>
    simp only [gcells, List.mem_singleton] at hg'
    subst hg'
    exact hh

theorem ev_hasH {x : Operand} {g : G} (he : AM.ev s x = some g) {h : Nat} (hf : frNo h s.fr = true) : g.hasH h = false := by
  cases x with
  | tmp t => exact frNo_get hf he
  | const v => cases he; rfl
  | func f => cases he; rfl
  | global g => cases he

theorem Effect.of {W : List Nat} {o : Oper} {d : Nat} {s1 : St} {g : G} (hd : o.dst = some d) (hnd : ∀ c, o.op ≠ .defer c)
    (h : ∀ (N : Nat) (cx : Cx) (μ : Mu) (a : Act) (w : World), Rel N cx μ s a w → ∃ v μ' w', (execOp a.eval o).run P w = .ok (.value v) w' ∧ Rel N cx μ' s1 a w' ∧
      RepV (cx.O s1.st μ') cx.base w' μ' g v ∧ Step W s.st μ s1.st μ' w w') : Effect P W s o (· = s1.put d g) := by
  refine ⟨hnd, ?_⟩
  intro N cx μ a w hr hN K Q hK
  obtain ⟨v, μ', w', hrun, hr', hv, hst⟩ := h N cx μ a w hr
  unfold Oper.wp
  rw [hrun]
  show K (a.put o.dst v) w'
  rw [hd]
  exact hK μ' _ _ _ (hr'.put (hN d hd) hv) rfl hst

theorem Effect.skip {W : List Nat} {o : Oper} {s1 : St} (hd : o.dst = none) (hnd : ∀ c, o.op ≠ .defer c)
    (h : ∀ (N : Nat) (cx : Cx) (μ : Mu) (a : Act) (w : World), Rel N cx μ s a w → ∃ μ' w', (execOp a.eval o).run P w = .ok .skip w' ∧ Rel N cx μ' s1 a w' ∧ Step W s.st μ s1.st μ' w w') : Effect P W s o (· = s1) := by
  refine ⟨hnd, ?_⟩
  intro N cx μ a w hr hN K Q hK
  obtain ⟨μ', w', hrun, hr', hst⟩ := h N cx μ a w hr
  unfold Oper.wp
  rw [hrun]
  show K (a.put o.dst undef) w'
  rw [hd]
  exact hK μ' _ _ _ hr' rfl hst

theorem fresh_spec {h : Nat} (hf : fresh s h = true) : sget s.st h = none ∧ frNo h s.fr = true ∧ stNo h s.st = true ∧ dfNo h s.df = true ∧ Nat.blt h 1000 = true := by
  unfold fresh at hf
  simpa only [Bool.and_eq_true, Option.isNone_iff_eq_none] using hf

/-- A new block with the cells of what is known. -/
theorem Rel.allocNew {μ : Mu} {a : Act} {w : World} (h : Rel N cx μ s a w) {hd : Nat} (k : Blk) {cs : Array Value} (hfr : fresh s hd = true)
    (hlp : k.lp = none) (hlen : k.cells.length ≤ cs.size) (hbt : k.sz ≠ 0 → cs.size ≤ maxLen * k.sz) (hcells : ∀ (j : Nat) (g : G), k.cells[j]? = some g → ∃ v, cs[j]? = some v ∧ RepC (cx.O s.st μ) cx.base w μ k g v) (hk : k.pure = false → ∀ g, g ∈ k.cells → g.hasH hd = false) (W : List Nat) :
    ∃ μ' w', w' = w.alloc (.cells cs k.ety) ∧ Rel N cx μ' { fr := s.fr, st := (hd, k) :: s.st, df := s.df } a w' ∧ μ' hd = some (w.heap.size, cs.size) ∧ Step W s.st μ ((hd, k) :: s.st) μ' w w' :=
  ⟨upd μ hd (some (w.heap.size, cs.size)), _, rfl, h.alloc hfr hlp hlen hbt hcells hk, upd_same _ _ _, step_alloc (fresh_spec hfr).1⟩

variable {W : List Nat} {d : Nat}

theorem EF.box {t : TypeId} {x : Operand} {g : G} (hd : Nat) (hx : ev s x = some g) (hok : gok g = true) (hfr : fresh s hd = true) :
    Effect P W s ⟨some d, .box t x, ty, pos, after, guard⟩ (· = { fr := (d, .loc hd 0) :: s.fr, st := (hd, ⟨t, false, true, false, 0, gcells g, none⟩) :: s.st, df := s.df }) := by
  refine Effect.of (s1 := { fr := s.fr, st := (hd, ⟨t, false, true, false, 0, gcells g, none⟩) :: s.st, df := s.df }) (g := .loc hd 0) rfl (fun _ h => by cases h) ?_
  intro N cx μ a w hr
  have hv := hr.ev hx
  obtain ⟨hl, hc⟩ := hv.cells hok
  obtain ⟨μ', w', rfl, h1, h2, h3⟩ := hr.allocNew (k := ⟨t, false, true, false, 0, gcells g, none⟩) (cs := (a.eval x).cells) hfr rfl (by simp [hl]) (by simp) (fun j g' hg' => hc j g' hg')
    (fun _ g' hg' => by
      cases hh : g'.hasH hd with
      | false => rfl
      | true => have := gcells_hasH hg' hh; rw [ev_hasH hx (fresh_spec hfr).2.1] at this; cases this) W
  exact ⟨_, μ', _, by simp [execOp, Instr.box, newVar, newRow], h1, .loc hd 0 _ _ h2, h3⟩

theorem EF.alloc {t : TypeId} {z : Value} (hd : Nat) (hz : ∀ w, (zeroValue t).run P w = .ok z w) (hfr : fresh s hd = true) :
    Effect P W s ⟨some d, .alloc t, ty, pos, after, guard⟩ (· = { fr := (d, .loc hd 0) :: s.fr, st := (hd, ⟨t, false, true, false, 0, z.cells.toList.map .val, none⟩) :: s.st, df := s.df }) := by
  refine Effect.of (s1 := { fr := s.fr, st := (hd, ⟨t, false, true, false, 0, z.cells.toList.map .val, none⟩) :: s.st, df := s.df }) (g := .loc hd 0) rfl (fun _ h => by cases h) ?_
  intro N cx μ a w hr
  obtain ⟨μ', w', rfl, h1, h2, h3⟩ := hr.allocNew (k := ⟨t, false, true, false, 0, z.cells.toList.map .val, none⟩) (cs := z.cells) hfr rfl (by simp) (by simp)
    (fun j g' hg' => by
      simp only [List.getElem?_map, Array.getElem?_toList] at hg'
      cases hu : z.cells[j]? with
      | none => rw [hu] at hg'; cases hg'
      | some u => rw [hu] at hg'; cases hg'; exact ⟨u, rfl, .imm (.val _)⟩)
    (fun _ g' hg' => by
      simp only [List.mem_map] at hg'
      obtain ⟨u, _, rfl⟩ := hg'
      rfl) W
  exact ⟨_, μ', _, by simp [execOp, Instr.alloc, hz, newVar, newRow], h1, .loc hd 0 _ _ h2, h3⟩

/-- make of n elements of one cell. -/
theorem EF.make {t e : TypeId} {x y : Operand} {z : Value} {bt : Nat} {k k' : IntKind} {n : Int} (hd : Nat) (hx : ev s x = some (.val (.int k n))) (hy : ev s y = some (.val (.int k' n)))
    (ht : P.underlying t = some (.slice e)) (hi : (P.info? e).map (fun i => (i.zero, i.size, i.bytes)) = some (some z, 1, bt)) (hzc : z.cells = #[z])
    (h0 : 0 ≤ n) (hb : (bt : Int) * n ≤ 281474976710656) (h63 : n ≤ 9223372036854775807) (hfr : fresh s hd = true) :
    Effect P W s ⟨some d, .makeSlice t x y, ty, pos, after, guard⟩ (· = { fr := (d, .osl hd 1 0 n.toNat) :: s.fr, st := (hd, ⟨e, true, true, true, 1, List.replicate n.toNat (.val z), none⟩) :: s.st, df := s.df }) := by
  refine Effect.of (s1 := { fr := s.fr, st := (hd, ⟨e, true, true, true, 1, List.replicate n.toNat (.val z), none⟩) :: s.st, df := s.df }) (g := .osl hd 1 0 n.toNat) rfl (fun _ h => by cases h) ?_
  intro N cx μ a w hr
  obtain ⟨i, hi1, hi2⟩ := Option.map_eq_some_iff.1 hi
  simp only [Prod.mk.injEq] at hi2
  obtain ⟨hz, hs1, hb1⟩ := hi2
  have hsz : (madeCells z.cells (n.toNat * i.size)).size = n.toNat := by rw [size_madeCells, hs1, Nat.mul_one]
  obtain ⟨μ', w', rfl, h1, h2, h3⟩ := hr.allocNew (k := ⟨e, true, true, true, 1, List.replicate n.toNat (.val z), none⟩) (cs := madeCells z.cells (n.toNat * i.size)) hfr rfl (by simp [hsz]) (fun _ => by rw [hsz]; unfold maxLen; omega)
    (fun j g' hg' => by
      rw [List.getElem?_replicate] at hg'
      split at hg'
      · rename_i hj
        cases hg'
        refine ⟨z, ?_, .val _⟩
        have : j < n.toNat * i.size := by rw [hs1]; omega
        simp [madeCells, this, hzc, Nat.mod_one]
      · cases hg')
    (fun h => by cases h) W
  have hrun := run_make (P := P) w t e i z ht hi1 hz k k' n n h0 (Int.le_refl _) (by rw [hb1]; exact hb) h63
  rw [hsz] at h2
  refine ⟨_, μ', _, ?_, h1, .osl hd 1 0 n.toNat _ _ n.toNat h2 (Nat.le_refl _) (by omega), h3⟩
  simp [execOp, hr.val hx, hr.val hy, hrun]

end
end Go.AM
