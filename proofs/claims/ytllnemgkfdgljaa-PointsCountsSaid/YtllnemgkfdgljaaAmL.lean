/-
  AM, part L: a contract from a walk; calls by contract.
-/
import Derived.Test.YtllnemgkfdgljaaAmK
set_option linter.unusedSectionVars false
set_option linter.unusedSimpArgs false
set_option linter.unusedVariables false
namespace Go.AM

def notMine : List (Nat × Blk) → Bool
  | [] => true
  | (_, k) :: r => !k.mine && notMine r

/-- At a function's end. -/
def RetQ (P : Program) (fn : Func) (Q : G → List (Nat × Blk) → Prop) : Exit → St → Prop := fun e s =>
  (e = .ret ∨ e = .normal) ∧ s.df = [] ∧ ∃ gs r st', Ress P s fn.results.toList gs ∧ SubSt s.st st' ∧ fzG s.st st' (pack gs) = some r ∧ Q r st'
/-- The same where it may panic. -/
def RetP (P : Program) (fn : Func) (Q : G → List (Nat × Blk) → Prop) (Qp : List PanicEntry → List (Nat × Blk) → Prop) : Exit → St → Prop := fun e s =>
  RetQ P fn Q e s ∨ ∃ c, e = .panic c ∧ s.df = [] ∧ ∃ st', SubSt s.st st' ∧ Qp c st'

/-! ### What is no memory changes -/
def isMem : Obj → Bool
  | .cells .. => true
  | _ => false
/-- Blocks of 'Z' that are no memory may have changed. -/
structure Shut (Z : Nat → Prop) (w w' : World) : Prop where
  size : w'.heap.size = w.heap.size
  block : ∀ b, w'.heap[b]? = w.heap[b]? ∨ (Z b ∧ ∃ o, w.heap[b]? = some o ∧ isMem o = false)
  os : w'.os = w.os
  tape : w'.tape = w.tape
  output : w'.output = w.output

theorem Shut.refl (Z : Nat → Prop) (w : World) : Shut Z w w := ⟨rfl, fun _ => .inl rfl, rfl, rfl, rfl⟩
theorem Shut.put {Z : Nat → Prop} {w : World} {D : Nat} {o : Obj} (o' : Obj) (hz : Z D) (ho : w.heap[D]? = some o) (hc : isMem o = false) : Shut Z w (w.putObj D o') := by
  refine ⟨by simp [World.putObj], fun b => ?_, rfl, rfl, rfl⟩
  by_cases e : b = D
  · subst e; exact .inr ⟨hz, o, ho, hc⟩
  · exact .inl (World.putObj_heap_other e)

theorem Shut.cells {Z : Nat → Prop} {w w' : World} (h : Shut Z w w') {b : Nat} {cs : Array Value} {e : TypeId} {f : Nat × Nat} (hb : w.heap[b]? = some (.cells cs e f)) : w'.heap[b]? = some (.cells cs e f) := by
  rcases h.block b with h1 | ⟨_, x, h1, h2⟩
  · exact h1.trans hb
  · rw [hb] at h1; cases h1; cases h2
theorem Shut.cell {Z : Nat → Prop} {w w' : World} (h : Shut Z w w') {b j : Nat} {v : Value} (hb : w.cell? ⟨b, j, none⟩ = some v) : w'.cell? ⟨b, j, none⟩ = some v := by
  rcases h.block b with h1 | ⟨_, x, h1, h2⟩
  · rw [World.cell?_of_block (w := w) h1]; exact hb
  · cases x with
    | cells cs e f => cases h2
    | _ => simp [World.cell?, h1] at hb

theorem RepI.shut {O Z : Nat → Prop} {w w' : World} {g : G} {v : Value} (hr : RepI O w g v) (h : Shut Z w w') : RepI O w' g v := by
  induction hr with
  | any v => exact .any v
  | val v => exact .val v
  | nil => exact .nil
  | emp a cap => exact .emp a cap
  | sl n cells b off cap us hn hO1 hb1 hc hr ih => exact .sl n cells b off cap us hn hO1 (by rw [h.size]; exact hb1) (fun j hj => h.cell (hc j hj)) ih
  | ptr cells b off us hO1 hb1 hc hr ih => exact .ptr cells b off us hO1 (by rw [h.size]; exact hb1) (fun j hj => h.cell (hc j hj)) ih
  | agg cells us hl hr ih => exact .agg cells us hl ih

theorem RepV.shut {O Z : Nat → Prop} {base : Nat} {w w' : World} {μ : Mu} {g : G} {v : Value} (hr : RepV O base w μ g v) (h : Shut Z w w') : RepV O base w' μ g v := by
  induction hr with
  | imm hr => exact .imm (hr.shut h)
  | fr hr => exact .fr (hr.shut h)
  | loc h off b m hm => exact .loc h off b m hm
  | onil h sz hm => exact .onil h sz hm
  | osl h sz off n b m cap hm hn hc => exact .osl h sz off n b m cap hm hn hc
  | ozero h sz off0 b m hm hpos => exact .ozero h sz off0 b m hm hpos
  | agg cells us hl hr ih => exact .agg cells us hl ih
  | tup cells us hl hr ih => exact .tup cells us hl ih
  | clo f caps us hl hr ih => exact .clo f caps us hl ih
  | yld h b m hm => exact .yld h b m hm

theorem RelBlk.shut {O Z : Nat → Prop} {base : Nat} {w w' : World} {μ : Mu} {k : Blk} {x : Option (Nat × Nat)} (hr : RelBlk O base w μ k x) (h : Shut Z w w') (hz : ∀ b m, x = some (b, m) → k.lp ≠ none → ¬ Z b) : RelBlk O base w' μ k x := by
  cases x with
  | none => exact hr
  | some bm =>
    obtain ⟨b, m⟩ := bm
    cases hl : k.lp with
    | none =>
      obtain ⟨cs, h2, h3, h4, h6, h8, h5⟩ := hr.cells hl
      refine .mk hl ⟨cs, h.cells h2, h3, h4, h6, h8, fun j g hg => ?_⟩
      obtain ⟨v, hv, hrv⟩ := h5 j g hg
      refine ⟨v, hv, ?_⟩
      unfold RepC at hrv ⊢
      cases hp : k.pure with
      | true => rw [hp] at hrv; exact hrv.shut h
      | false => rw [hp] at hrv; exact hrv.shut h
    | some lp =>
      have hz := hz b m rfl (by rw [hl]; exact fun h => by cases h)
      unfold RelBlk at hr ⊢
      rw [hl] at hr ⊢
      obtain ⟨D, vs, h2, h3, h4, h5, h6⟩ := hr
      refine ⟨D, vs, ?_, h3, h4, h5, fun j t g ht hg => let ⟨v, hv, hrv⟩ := h6 j t g ht hg; ⟨v, hv, hrv.shut h⟩⟩
      rcases h.block b with h7 | ⟨h7, _⟩
      · exact h7.trans h2
      · exact absurd h7 hz

theorem RelSt.shut {cx : Cx} {μ : Mu} {st : List (Nat × Blk)} {w w' w0 : World} {Z : Nat → Prop} (hr : RelSt cx μ st w) (h : Shut Z w w') (hz : ∀ x k b m, sget st x = some k → μ x = some (b, m) → k.lp ≠ none → ¬ Z b)
    (h0 : w0.os = cx.w0.os ∧ w0.tape = cx.w0.tape ∧ w0.output = cx.w0.output) (hk : ∀ b, b < cx.base → ¬ cx.A b → w'.heap[b]? = w0.heap[b]?) : RelSt { cx with w0 := w0 } μ st w' :=
  { blk := fun x k hx => (hr.blk x k hx).shut h fun b m hm hl => hz x k b m hx hm hl, inj := hr.inj, out := hr.out, pin := hr.pin, xlt := hr.xlt, hb := by rw [h.size]; exact hr.hb,
    os := (h.os.trans hr.os).trans h0.1.symm, tape := (h.tape.trans hr.tape).trans h0.2.1.symm, output := (h.output.trans hr.output).trans h0.2.2.symm, keep := hk }

theorem DfRel.shut {O Z : Nat → Prop} {base : Nat} {w w' : World} {μ : Mu} {ds : List Deferred} {gs : List G} (hr : DfRel O base w μ ds gs) (h : Shut Z w w') (hz : ∀ d ∈ ds, ∀ D, d.target = .collected D → ¬ Z D) : DfRel O base w' μ ds gs := by
  induction hr with
  | nil => exact .nil
  | mark h1 h2 h3 h4 h5 h6 ih =>
    refine .mark h1 h2 (by rw [h.size]; exact h3) ?_ h5 (ih fun d hd => hz d (List.mem_cons_of_mem _ hd))
    rcases h.block _ with h7 | ⟨h7, _⟩
    · exact h7.trans h4
    · exact absurd h7 (hz _ List.mem_cons_self _ rfl)
  | clo h1 h2 ih => exact .clo (h1.shut h) (ih fun d hd => hz d (List.mem_cons_of_mem _ hd))

theorem leaves_marks {F : Fence} {n : Nat} {P : Program} {fn : Func} {tmps : Array Value} {R : Ending → World → Prop} {u : FrameMode} (hu : u ≠ .run) {O : Nat → Prop} {base : Nat} {μ : Mu} :
    ∀ {ds : List Deferred} {w : World}, DfRel O base w μ ds [] → (∀ w', Shut (fun b => ¬ O b ∧ base ≤ b) w w' → LeavesIn F n P fn tmps R [] u w') → LeavesInM F n P fn tmps R ds u w
  | [], w, _, K => K w (Shut.refl _ _)
  | d :: ds, w, h, K => by
    cases h with
    | mark h1 h2 h3 h4 h5 h6 =>
      rename_i D
      refine ⟨hu, .inl ⟨D, _, rfl, run_takeDeferred h4, ?_⟩⟩
      have hs : Shut (fun b => ¬ O b ∧ base ≤ b) w (w.putObj D (.deferred none)) := Shut.put _ ⟨h1, h2⟩ h4 rfl
      have hs1 : Shut (fun b => b = D) w (w.putObj D (.deferred none)) := Shut.put _ rfl h4 rfl
      refine leaves_marks hu (O := O) (base := base) (μ := μ) (w := w.putObj D (.deferred none)) (h6.shut hs1 fun d hd D' e e' => h5 d hd (by rw [e, e'])) fun w' hw' => K w' ⟨hw'.size.trans hs.size, fun b => ?_, hw'.os.trans hs.os, hw'.tape.trans hs.tape, hw'.output.trans hs.output⟩
      by_cases e : b = D
      · subst e; exact .inr ⟨⟨h1, h2⟩, _, h4, rfl⟩
      · rcases hw'.block b with h7 | ⟨h7, o, h8, h9⟩
        · exact .inl (h7.trans (World.putObj_heap_other e))
        · exact .inr ⟨h7, o, by rw [← World.putObj_heap_other (o := .deferred none) e]; exact h8, h9⟩

/-- At the end of a call. -/
theorem RelSt.shutEnd {cx : Cx} {μ : Mu} {st : List (Nat × Blk)} {w w' : World} (hr : RelSt cx μ st w) (h : Shut (fun b => ¬ cx.O st μ b ∧ cx.base ≤ b) w w') : RelSt cx μ st w' :=
  hr.shut (w0 := cx.w0) h (fun x k b m h1 h2 _ hz => hz.1 (.inr ⟨x, k, m, h1, h2⟩)) ⟨rfl, rfl, rfl⟩ fun b hb hA => by
    rcases h.block b with h1 | ⟨⟨_, h1⟩, _⟩
    · exact h1.trans (hr.keep b hb hA)
    · omega

section
variable {P : Program} {N : Nat} {cx : Cx} {s : St}

theorem pack_rep {O : Nat → Prop} {base : Nat} {w : World} {μ : Mu} {gs : List G} {vs : List Value} (hl : vs.length = gs.length) (hr : ∀ (j : Nat) (g : G) (v : Value), gs[j]? = some g → vs[j]? = some v → RepV O base w μ g v) :
    RepV O base w μ (pack gs) (if h : vs.toArray.size = 1 then vs.toArray[0] else .tuple vs.toArray) := by
  match gs, vs, hl, hr with
  | [], [], _, hr => exact .tup [] [] rfl hr
  | [g], [v], _, hr => exact hr 0 g v rfl rfl
  | g :: g' :: gs, v :: v' :: vs, hl, hr =>
    rw [dif_neg (by simp)]
    exact .tup _ _ hl hr

theorem results_eq (fn : Func) (a : Act) : results fn a.tmps = (do let vs ← fn.results.mapM (resSem a); pure (if h : vs.size = 1 then vs[0] else .tuple vs)) := rfl

theorem run_mapM_array {α : Type} (f : α → Sem Value) (xs : Array α) (w w' : World) (vs : List Value) (h : (xs.toList.mapM f).run P w = .ok vs w') : (xs.mapM f).run P w = .ok vs.toArray w' := by
  rw [Array.mapM_eq_mapM_toList]
  simp [Sem.run_map, h]

theorem GP.of {f : FuncId} {fn : Func} {c : Code} {args : List G} {st : List (Nat × Blk)} {Q : G → List (Nat × Blk) → Prop} {Qp : List PanicEntry → List (Nat × Blk) → Prop} (hf : P.funcs[f]? = some fn) (hb : fn.body = some c) (hN : fn.ntmps = N) (hle : Nat.ble args.length N = true)
    (h : ∀ cx, cx.ro = none → GW P N cx c (RetP P fn Q Qp) { fr := frameOf args 0, st := st, df := [] }) : GP P f args st Q Qp := by
  intro X μ w vs hX hst hl ha
  have hle := Nat.le_of_ble_eq_true hle
  have hrel : Rel N (cx0 X st μ w) μ { fr := frameOf args 0, st := st, df := [] } { tmps := vs.toArray ++ Array.replicate (fn.ntmps - vs.toArray.size) undef, defers := [] } w := by
    refine { st := hst, nd := .nil, sz := by simp; omega, fr := fun t g hg => ?_ }
    obtain ⟨_, h2⟩ := get_frameOf hg
    simp only [Nat.sub_zero] at h2
    have ht : t < vs.length := by have := (List.getElem?_eq_some_iff.1 h2).1; omega
    refine ⟨vs[t], ?_, ha t g vs[t] h2 (List.getElem?_eq_getElem ht)⟩
    rw [Array.getElem?_append_left (by simpa using ht)]
    simp [ht]
  refine callsIn_FF.1 (callsIn_of_wp_marks (F := FF none) (n := 0) hf hb trivial ?_)
  refine wpIn_mono (h (cx0 X st μ w) rfl μ _ w hrel) fun e a' w' hl => ?_
  have fin : ∀ (μ' : Mu) (s' : St), Rel N (cx0 X st μ w) μ' s' a' w' → RetP P fn Q Qp e s' → (e = .ret ∨ e = .normal) → LeavesInM (FF none) 0 P fn a'.tmps (Came X st μ w Q Qp) a'.defers .returning w' := by
    rintro μ' s' hr' hq he
    have hq : RetQ P fn Q e s' := by
      rcases hq with hq | ⟨c, h1, _⟩
      · exact hq
      · subst h1; rcases he with he | he <;> cases he
    obtain ⟨_, hdf, gs, r, st', h1, h2, h3, h4⟩ := hq
    have hnd := hr'.nd
    rw [hdf] at hnd
    refine leaves_marks (fun h => by cases h) hnd fun w'' hs => ?_
    have hr'' : Rel N (cx0 X st μ w) μ' { s' with df := [] } { a' with defers := [] } w'' :=
      { st := hr'.st.shutEnd hs, nd := .nil, sz := hr'.sz, fr := fun t g hg => let ⟨v, hv, hrv⟩ := hr'.fr t g hg; ⟨v, hv, hrv.shut hs⟩ }
    have h1' : Ress P { s' with df := [] } fn.results.toList gs := by
      have : ({ s' with df := [] } : St) = s' := by cases s'; simp only at hdf; subst hdf; rfl
      rw [this]; exact h1
    obtain ⟨vs', hl', hvs, hrun⟩ := h1'.run hr''
    have hp := pack_rep hl' hvs
    refine ⟨_, ?_, .inl ⟨_, r, st', μ', rfl, h4, hr''.st.sub h2, fzG_spec hr''.st (fun h k hk => ⟨k, h2.get hk⟩) hp h3⟩⟩
    have e1 : results fn a'.tmps = results fn ({ a' with defers := [] } : Act).tmps := rfl
    rw [e1, results_eq]
    simp only [Sem.run_bind, run_mapM_array _ _ _ _ _ hrun, Result.andThen_ok, Sem.run_pure]
  cases e with
  | normal => obtain ⟨μ', s', hr', hq⟩ := hl; exact fin μ' s' hr' hq (.inr rfl)
  | ret => obtain ⟨μ', s', hr', hq⟩ := hl; exact fin μ' s' hr' hq (.inl rfl)
  | panic ch =>
    obtain ⟨μ', s', h1, h2, h3, hq⟩ := hl
    rcases hq with ⟨hq, _⟩ | ⟨c', h4, hdf, st', h5, h6⟩
    · rcases hq with hq | hq <;> cases hq
    · cases h4
      rw [hdf] at h2
      refine leaves_marks (fun h => by cases h) h2 fun w'' hs => ?_
      exact .inr ⟨_, st', μ', rfl, h6, (h1.shutEnd hs).sub h5⟩
  | outgrown => exact hl.elim
  | exit id =>
    obtain ⟨μ', s', hr', hq⟩ := hl
    rcases hq with ⟨hq, _⟩ | ⟨c, hq, _⟩
    · rcases hq with hq | hq <;> cases hq
    · cases hq
  | goto l =>
    obtain ⟨μ', s', hr', hq⟩ := hl
    rcases hq with ⟨hq, _⟩ | ⟨c, hq, _⟩
    · rcases hq with hq | hq <;> cases hq
    · cases hq

theorem GM.of {f : FuncId} {fn : Func} {c : Code} {args : List G} {st : List (Nat × Blk)} {Q : G → List (Nat × Blk) → Prop} (hf : P.funcs[f]? = some fn) (hb : fn.body = some c) (hN : fn.ntmps = N) (hle : Nat.ble args.length N = true)
    (h : ∀ cx, cx.ro = none → GW P N cx c (RetQ P fn Q) { fr := frameOf args 0, st := st, df := [] }) : GM P f args st Q :=
  GP.of hf hb hN hle fun cx hro => (h cx hro).mono fun _ _ hq => .inl hq

/-! ### How a caller's values read to a callee that writes nothing -/

def mapO (f : G → Option G) : List G → Option (List G)
  | [] => some []
  | g :: r => match f g, mapO f r with
    | some g', some r' => some (g' :: r')
    | _, _ => none

theorem mapO_get {f : G → Option G} : ∀ {gs gs' : List G}, mapO f gs = some gs' → gs'.length = gs.length ∧ ∀ (j : Nat) (g' : G), gs'[j]? = some g' → ∃ g, gs[j]? = some g ∧ f g = some g'
  | [], _, h => by cases h; exact ⟨rfl, fun j g h => by simp at h⟩
  | g :: r, gs', h => by
    simp only [mapO] at h
    cases h1 : f g with
    | none => rw [h1] at h; cases h
    | some g1 =>
      rw [h1] at h
      cases h2 : mapO f r with
      | none => rw [h2] at h; cases h
      | some r1 =>
        rw [h2] at h
        cases h
        obtain ⟨h3, h4⟩ := mapO_get h2
        refine ⟨by simp [h3], fun j g' hg' => ?_⟩
        cases j with
        | zero => cases hg'; exact ⟨g, rfl, h1⟩
        | succ j => exact h4 j g' hg'

/-- The nil slice as an empty one. -/
def viewV : Value → G
  | .slice none 0 0 => .sl 0 []
  | v => .val v
theorem viewV_rep {O : Nat → Prop} {w : World} (v : Value) : RepI O w (viewV v) v := by
  unfold viewV
  split
  · exact .nil
  · exact .val _

def view : Nat → List (Nat × Blk) → G → Option G
  | 0, _, _ => none
  | n + 1, st, g => match g with
    | .val v => some (viewV v)
    | .sl n cs => some (.sl n cs)
    | .ptr cs => some (.ptr cs)
    | .fr g => some g
    | .osl h sz off m => match sget st h with
      | some k => match k.lp with
        | some _ => none
        | none => match k.pure with
          | true => some (.sl m ((k.cells.drop off).take (m * sz)))
          | false => match mapO (view n st) ((k.cells.drop off).take (m * sz)) with
            | some cs => some (.sl m cs)
            | none => none
      | none => none
    | .loc h off => match sget st h with
      | some k => match k.lp with
        | some _ => none
        | none => match k.pure with
          | true => some (.ptr (k.cells.drop off))
          | false => match mapO (view n st) (k.cells.drop off) with
            | some cs => some (.ptr cs)
            | none => none
      | none => none
    | .agg gs => match mapO (view n st) gs with
      | some gs' => some (.agg gs')
      | none => none
    | _ => none

/-- What is seen is a reading that leans on nothing but what the caller may lean on, its own blocks among it. -/
theorem view_gen {st : List (Nat × Blk)} {O X : Nat → Prop} {base : Nat} {μ : Mu} {w : World} (hblk : ∀ h k, sget st h = some k → RelBlk O base w μ k (μ h)) (hout : ∀ h k b m, sget st h = some k → μ h = some (b, m) → ¬ X b) (hXO : ∀ b, X b → O b) :
    ∀ (n : Nat) {g g' : G} {v : Value}, RepV O base w μ g v → view n st g = some g' → RepI X w g' v
  | 0, _, _, _, _, h => by cases h
  | n + 1, g, g', v, hv, h => by
    have hX : ∀ {g v}, RepI O w g v → RepI X w g v := fun h => h.mono (Kept.refl _ _) fun b _ hn hx => hn (hXO b hx)
    have cells : ∀ (hh off cnt : Nat) (k : Blk) (b m : Nat) (cs : List G), sget st hh = some k → k.lp = none → μ hh = some (b, m) → (match k.pure with | true => some ((k.cells.drop off).take cnt) | false => mapO (view n st) ((k.cells.drop off).take cnt)) = some cs →
        ∃ us : Nat → Value, ¬ X b ∧ b < w.heap.size ∧ (∀ j, j < cs.length → w.cell? ⟨b, off + j, none⟩ = some (us j)) ∧ (∀ (j : Nat) (g : G), cs[j]? = some g → RepI X w g (us j)) ∧ cs.length ≤ m - off := by
      intro hh off cnt k b m cs hk hlp hm hcs
      have hb := hblk hh k hk
      rw [hm] at hb
      obtain ⟨vs, h1, h2, h3, h4, h5, h6⟩ := hb.cells hlp
      have rd : cs.length ≤ m - off ∧ ∀ (j : Nat) (g : G), cs[j]? = some g → ∃ v, vs[off + j]? = some v ∧ RepI X w g v := by
        cases hp : k.pure with
        | true =>
          rw [hp] at hcs
          cases hcs
          refine ⟨by rw [List.length_take, List.length_drop]; omega, fun j g hg => ?_⟩
          rw [List.getElem?_take] at hg
          split at hg
          · rw [List.getElem?_drop] at hg
            obtain ⟨v, hv, hrv⟩ := h6 _ g hg
            refine ⟨v, hv, ?_⟩
            unfold RepC at hrv
            rw [hp] at hrv
            exact hX (hrv.flag (f' := false) (fun h => by cases h))
          · cases hg
        | false =>
          rw [hp] at hcs
          obtain ⟨h7, h8⟩ := mapO_get hcs
          refine ⟨by rw [h7, List.length_take, List.length_drop]; omega, fun j g hg => ?_⟩
          obtain ⟨g0, h9, h10⟩ := h8 j g hg
          rw [List.getElem?_take] at h9
          split at h9
          · rw [List.getElem?_drop] at h9
            obtain ⟨v, hv, hrv⟩ := h6 _ g0 h9
            refine ⟨v, hv, ?_⟩
            unfold RepC at hrv
            rw [hp] at hrv
            exact view_gen hblk hout hXO n hrv h10
          · cases h9
      refine ⟨fun j => vs.getD (off + j) undef, hout hh k b m hk hm, lt_of_heap h1, fun j hj => ?_, fun j g hg => ?_, rd.1⟩
      · obtain ⟨v, hv, _⟩ := rd.2 j _ (List.getElem?_eq_getElem hj)
        rw [cell_of h1, hv]
        simp [hv]
      · obtain ⟨v, hv, hrv⟩ := rd.2 j g hg
        simpa [hv] using hrv
    cases g with
    | val u => cases h; cases hv with | imm hv => cases hv; exact viewV_rep _
    | sl m cs => cases h; cases hv with | imm hv => exact hX hv
    | ptr cs => cases h; cases hv with | imm hv => exact hX hv
    | fr g => cases h; cases hv with
      | imm hv => cases hv
      | fr hv => exact hX hv.old
    | osl hh sz off m =>
      simp only [view] at h
      cases hk : sget st hh with
      | none => rw [hk] at h; cases h
      | some k =>
        rw [hk] at h
        dsimp only at h
        cases hlp : k.lp with
        | some lp => rw [hlp] at h; cases h
        | none =>
        rw [hlp] at h
        dsimp only at h
        have key : ∃ cs, g' = .sl m cs ∧ (match k.pure with | true => some ((k.cells.drop off).take (m * sz)) | false => mapO (view n st) ((k.cells.drop off).take (m * sz))) = some cs := by
          cases hp : k.pure with
          | true => rw [hp] at h; cases h; exact ⟨_, rfl, rfl⟩
          | false =>
            rw [hp] at h
            dsimp only at h ⊢
            cases hq : mapO (view n st) ((k.cells.drop off).take (m * sz)) with
            | none => rw [hq] at h; cases h
            | some cs => rw [hq] at h; cases h; exact ⟨_, rfl, rfl⟩
        obtain ⟨cs, rfl, hcs⟩ := key
        have len0 : ∀ {cs}, m * sz = 0 → (match k.pure with | true => some ((k.cells.drop off).take (m * sz)) | false => mapO (view n st) ((k.cells.drop off).take (m * sz))) = some cs → cs = [] := by
          intro cs h0 h
          rw [h0, List.take_zero] at h
          cases hp : k.pure with
          | true => rw [hp] at h; cases h; rfl
          | false => rw [hp] at h; cases h; rfl
        cases hv with
        | imm hv => cases hv
        | onil _ _ hm =>
          rw [len0 (Nat.zero_mul _) hcs]
          exact .nil
        | osl _ _ _ _ b m0 cap hm hn hc =>
          obtain ⟨us, h1, h2, h3, h4, _⟩ := cells hh off (m * sz) k b m0 cs hk hlp hm hcs
          exact .sl m cs b off cap us hn h1 h2 h3 h4
        | ozero _ _ off0 b _ hm hpos =>
          rw [len0 (Nat.zero_mul _) hcs]
          obtain ⟨us, h1, h2, _⟩ := cells hh off (0 * sz) k b off cs hk hlp hm hcs
          exact .sl 0 [] b off0 0 us (Nat.le_refl _) h1 h2 (fun j hj => by simp at hj) (fun j g hg => by simp at hg)
    | loc hh off =>
      simp only [view] at h
      cases hk : sget st hh with
      | none => rw [hk] at h; cases h
      | some k =>
        rw [hk] at h
        dsimp only at h
        cases hlp : k.lp with
        | some lp => rw [hlp] at h; cases h
        | none =>
        rw [hlp] at h
        dsimp only at h
        have tk : (k.cells.drop off).take (k.cells.length) = k.cells.drop off := List.take_of_length_le (by rw [List.length_drop]; omega)
        have key : ∃ cs, g' = .ptr cs ∧ (match k.pure with | true => some ((k.cells.drop off).take k.cells.length) | false => mapO (view n st) ((k.cells.drop off).take k.cells.length)) = some cs := by
          rw [tk]
          cases hp : k.pure with
          | true => rw [hp] at h; cases h; exact ⟨_, rfl, rfl⟩
          | false =>
            rw [hp] at h
            dsimp only at h ⊢
            cases hq : mapO (view n st) (k.cells.drop off) with
            | none => rw [hq] at h; cases h
            | some cs => rw [hq] at h; cases h; exact ⟨_, rfl, rfl⟩
        obtain ⟨cs, rfl, hcs⟩ := key
        cases hv with
        | imm hv => cases hv
        | loc _ _ b m0 hm =>
          obtain ⟨us, h1, h2, h3, h4, _⟩ := cells hh off _ k b m0 cs hk hlp hm hcs
          exact .ptr cs b off us h1 h2 h3 h4
    | agg gs =>
      simp only [view] at h
      cases hq : mapO (view n st) gs with
      | none => rw [hq] at h; cases h
      | some gs' =>
        rw [hq] at h
        cases h
        obtain ⟨h1, h2⟩ := mapO_get hq
        have key : ∃ us : List Value, v = .agg us.toArray ∧ us.length = gs.length ∧ ∀ (j : Nat) (g : G) (v : Value), gs[j]? = some g → us[j]? = some v → RepV O base w μ g v := by
          cases hv with
          | imm hv => cases hv with
            | agg _ us hl hr => exact ⟨us, rfl, hl, fun j g v h1 h2 => .imm (hr j g v h1 h2)⟩
          | agg _ us hl hr => exact ⟨us, rfl, hl, hr⟩
        obtain ⟨us, rfl, hl, hr⟩ := key
        refine .agg gs' us (by omega) fun j g v hg hv => ?_
        obtain ⟨g0, h3, h4⟩ := h2 j g hg
        exact view_gen hblk hout hXO n (hr j g0 v h3 hv) h4
    | _ => cases h

theorem view_spec {st : List (Nat × Blk)} {μ : Mu} {w : World} (hst : RelSt cx μ st w) (n : Nat) {g g' : G} {v : Value} (hv : RepV (cx.O st μ) cx.base w μ g v) (h : view n st g = some g') : RepI cx.X w g' v :=
  view_gen hst.blk (fun h k b m h1 h2 => (hst.out h k b m h1 h2).1) (fun _ h => .inl h) n hv h

/-- Fresh through and through, or no reference at all. -/
def freshG : G → Bool
  | .val _ => true
  | .fr _ => true
  | .agg gs => go gs
  | .tup gs => go gs
  | _ => false
where go : List G → Bool
  | [] => true
  | g :: r => freshG g && go r

theorem freshG_go {gs : List G} (h : freshG.go gs = true) : ∀ (j : Nat) (g : G), gs[j]? = some g → freshG g = true := by
  induction gs with
  | nil => intro j g hg; simp at hg
  | cons x r ih =>
    simp only [freshG.go, Bool.and_eq_true] at h
    intro j g hg
    cases j with
    | zero => cases hg; exact h.1
    | succ j => exact ih h.2 j g hg

/-- What a callee hands back, if it is fresh, reads so to the caller. -/
theorem freshG_spec {X : Nat → Prop} {st' : List (Nat × Blk)} {μ' μ : Mu} {st : List (Nat × Blk)} {w w' : World} {g : G} {v : Value} (hb : cx.base ≤ w.heap.size) (hX : ∀ b, cx.X b → b < cx.base) (hown : ∀ b, Own st μ b → b < w.heap.size)
    (hv : RepV ((cx0 X st' μ' w).O st' μ') w.heap.size w' μ' g v) (hf : freshG g = true) : RepV (cx.O st μ) cx.base w' μ g v := by
  generalize hO : (cx0 X st' μ' w).O st' μ' = O at hv
  have imm : ∀ {g : G} {v : Value}, RepI O w' g v → freshG g = true → RepV (cx.O st μ) cx.base w' μ g v := by
    intro g v h
    induction h with
    | any v => intro hf; cases hf
    | val v => intro _; exact .imm (.val v)
    | nil => intro hf; cases hf
    | emp _ _ => intro hf; cases hf
    | sl _ _ _ _ _ _ _ _ _ _ _ => intro hf; cases hf
    | ptr _ _ _ _ _ _ _ _ => intro hf; cases hf
    | agg cells us hl hr ih => intro hf; exact .agg cells us hl fun j g v hg hv => ih j g v hg hv (freshG_go hf j g hg)
  induction hv with
  | imm h => exact imm h hf
  | fr h =>
    refine .fr (h.mono (Kept.refl _ _) ?_)
    rintro b hb1 hn (ho | ho | ho)
    · exact hn (.inl (by omega))
    · exact hn (.inl (by have := hX b ho; omega))
    · exact hn (.inl (hown b ho))
  | agg cells us hl hr ih => exact .agg cells us hl fun j g v hg hv => ih j g v hg hv (freshG_go hf j g hg)
  | tup cells us hl hr ih => exact .tup cells us hl fun j g v hg hv => ih j g v hg hv (freshG_go hf j g hg)
  | _ => cases hf

end
end Go.AM
