/-
  AM, second half.
-/
import Derived.Test.YtcbaolgciiieeaaGreatMgA
import Derived.Laws.Tables
import Derived.WalkSpells
import Derived.Laws.Slices
import Derived.Laws.Strings2
import Derived.IntWalk
import Derived.Laws.CopyRow
import Derived.Laws.IdiomCopy
set_option linter.unusedSectionVars false
set_option linter.unusedSimpArgs false
set_option linter.unusedVariables false
/-
 AM, part L: a contract from a walk; calls by contract.
-/
namespace Go.AM
def RetQ (P : Program) (fn : Func) (Q : G → List (Nat × Blk) → Prop) : Exit → St → Prop := fun e s =>
 (e = .ret ∨ e = .normal) ∧ s.df = [] ∧ ∃ gs r st', Ress P s fn.results.toList gs ∧ SubSt s.st st' ∧ fzG s.st st' (pack gs) = some r ∧ Q r st'
def RetP (P : Program) (fn : Func) (Q : G → List (Nat × Blk) → Prop) (Qp : List PanicEntry → List (Nat × Blk) → Prop) : Exit → St → Prop := fun e s =>
 RetQ P fn Q e s ∨ ∃ c, e = .panic c ∧ s.df = [] ∧ ∃ st', SubSt s.st st' ∧ Qp c st'
def isMem : Obj → Bool
 | .cells .. => true
 | _ => false
structure Shut (Z : Nat → Prop) (w w' : World) : Prop where
 size : w'.heap.size = w.heap.size
 block : ∀ b, w'.heap[b]? = w.heap[b]? ∨ (Z b ∧ ∃ o, w.heap[b]? = some o ∧ isMem o = false)
 os : w'.os = w.os
 tape : w'.tape = w.tape
 output : w'.output = w.output
theorem Shut.refl (Z : Nat → Prop) (w : World) : Shut Z w w := ⟨rfl, fun _ => .inl rfl, rfl, rfl, rfl⟩
theorem Shut.put {Z : Nat → Prop} {w : World} {D : Nat} {o : Obj} (o' : Obj) (hz : Z D) (ho : w.heap[D]? = some o) (hc : isMem o = false) : Shut Z w (w.putObj D o') := by
 refine ⟨by simp [World.putObj], fun b => ?_, rfl, rfl, rfl⟩
 by_cases e : b = D
 · subst e; exact .inr ⟨hz, o, ho, hc⟩
 · exact .inl (World.putObj_heap_other e)
theorem Shut.cells {Z : Nat → Prop} {w w' : World} (h : Shut Z w w') {b : Nat} {cs : Array Value} {e : TypeId} {f : Nat × Nat} (hb : w.heap[b]? = some (.cells cs e f)) : w'.heap[b]? = some (.cells cs e f) := by
 rcases h.block b with h1 | ⟨_, x, h1, h2⟩
 · exact h1.trans hb
 · rw [hb] at h1; cases h1; cases h2
theorem Shut.cell {Z : Nat → Prop} {w w' : World} (h : Shut Z w w') {b j : Nat} {v : Value} (hb : w.cell? ⟨b, j, none⟩ = some v) : w'.cell? ⟨b, j, none⟩ = some v := by
 rcases h.block b with h1 | ⟨_, x, h1, h2⟩
 · rw [World.cell?_of_block (w := w) h1]; exact hb
 · cases x with
  | cells cs e f => cases h2
  | _ => simp [World.cell?, h1] at hb
theorem RepI.shut {O Z : Nat → Prop} {w w' : World} {g : G} {v : Value} (hr : RepI O w g v) (h : Shut Z w w') : RepI O w' g v := by
 induction hr with
 | any v => exact .any v
 | val v => exact .val v
 | nil => exact .nil
 | emp a cap => exact .emp a cap
 | sl n cells b off cap us hn hO1 hb1 hc hr ih => exact .sl n cells b off cap us hn hO1 (by rw [h.size]; exact hb1) (fun j hj => h.cell (hc j hj)) ih
 | ptr cells b off us hO1 hb1 hc hr ih => exact .ptr cells b off us hO1 (by rw [h.size]; exact hb1) (fun j hj => h.cell (hc j hj)) ih
 | agg cells us hl hr ih => exact .agg cells us hl ih
theorem RepV.shut {O Z : Nat → Prop} {base : Nat} {w w' : World} {μ : Mu} {g : G} {v : Value} (hr : RepV O base w μ g v) (h : Shut Z w w') : RepV O base w' μ g v := by
 induction hr with
 | imm hr => exact .imm (hr.shut h)
 | fr hr => exact .fr (hr.shut h)
 | loc h off b m hm => exact .loc h off b m hm
 | onil h sz hm => exact .onil h sz hm
 | osl h sz off n b m cap hm hn hc => exact .osl h sz off n b m cap hm hn hc
 | ozero h sz off0 b m hm hpos => exact .ozero h sz off0 b m hm hpos
 | agg cells us hl hr ih => exact .agg cells us hl ih
 | tup cells us hl hr ih => exact .tup cells us hl ih
 | clo f caps us hl hr ih => exact .clo f caps us hl ih
 | yld h b m hm => exact .yld h b m hm
theorem RelBlk.shut {O Z : Nat → Prop} {base : Nat} {w w' : World} {μ : Mu} {k : Blk} {x : Option (Nat × Nat)} (hr : RelBlk O base w μ k x) (h : Shut Z w w') (hz : ∀ b m, x = some (b, m) → k.lp ≠ none → ¬ Z b) : RelBlk O base w' μ k x := by
 cases x with
 | none => exact hr
 | some bm =>
  obtain ⟨b, m⟩ := bm
  cases hl : k.lp with
  | none =>
   obtain ⟨cs, h2, h3, h4, h6, h8, h5⟩ := hr.cells hl
   refine .mk hl ⟨cs, h.cells h2, h3, h4, h6, h8, fun j g hg => ?_⟩
   obtain ⟨v, hv, hrv⟩ := h5 j g hg
   refine ⟨v, hv, ?_⟩
   unfold RepC at hrv ⊢
   cases hp : k.pure with
   | true => rw [hp] at hrv; exact hrv.shut h
   | false => rw [hp] at hrv; exact hrv.shut h
  | some lp =>
   have hz := hz b m rfl (by rw [hl]; exact fun h => by cases h)
   unfold RelBlk at hr ⊢
   rw [hl] at hr ⊢
   obtain ⟨D, vs, h2, h3, h4, h5, h6⟩ := hr
   refine ⟨D, vs, ?_, h3, h4, h5, fun j t g ht hg => let ⟨v, hv, hrv⟩ := h6 j t g ht hg; ⟨v, hv, hrv.shut h⟩⟩
   rcases h.block b with h7 | ⟨h7, _⟩
   · exact h7.trans h2
   · exact absurd h7 hz
theorem RelSt.shut {cx : Cx} {μ : Mu} {st : List (Nat × Blk)} {w w' w0 : World} {Z : Nat → Prop} (hr : RelSt cx μ st w) (h : Shut Z w w') (hz : ∀ x k b m, sget st x = some k → μ x = some (b, m) → k.lp ≠ none → ¬ Z b)
    (h0 : w0.os = cx.w0.os ∧ w0.tape = cx.w0.tape ∧ w0.output = cx.w0.output) (hk : ∀ b, b < cx.base → ¬ cx.A b → w'.heap[b]? = w0.heap[b]?) : RelSt { cx with w0 := w0 } μ st w' :=
  { blk := fun x k hx => (hr.blk x k hx).shut h fun b m hm hl => hz x k b m hx hm hl, inj := hr.inj, out := hr.out, pin := hr.pin, xlt := hr.xlt, hb := by rw [h.size]; exact hr.hb,
    os := (h.os.trans hr.os).trans h0.1.symm, tape := (h.tape.trans hr.tape).trans h0.2.1.symm, output := (h.output.trans hr.output).trans h0.2.2.symm, keep := hk }
theorem DfRel.shut {O Z : Nat → Prop} {base : Nat} {w w' : World} {μ : Mu} {ds : List Deferred} {gs : List G} (hr : DfRel O base w μ ds gs) (h : Shut Z w w') (hz : ∀ d ∈ ds, ∀ D, d.target = .collected D → ¬ Z D) : DfRel O base w' μ ds gs := by
 induction hr with
 | nil => exact .nil
 | mark h1 h2 h3 h4 h5 h6 ih =>
  refine .mark h1 h2 (by rw [h.size]; exact h3) ?_ h5 (ih fun d hd => hz d (List.mem_cons_of_mem _ hd))
  rcases h.block _ with h7 | ⟨h7, _⟩
  · exact h7.trans h4
  · exact absurd h7 (hz _ List.mem_cons_self _ rfl)
 | clo h1 h2 ih => exact .clo (h1.shut h) (ih fun d hd => hz d (List.mem_cons_of_mem _ hd))
theorem leaves_marks {F : Fence} {n : Nat} {P : Program} {fn : Func} {tmps : Array Value} {R : Ending → World → Prop} {u : FrameMode} (hu : u ≠ .run) {O : Nat → Prop} {base : Nat} {μ : Mu} :
    ∀ {ds : List Deferred} {w : World}, DfRel O base w μ ds [] → (∀ w', Shut (fun b => ¬ O b ∧ base ≤ b) w w' → LeavesIn F n P fn tmps R [] u w') → LeavesInM F n P fn tmps R ds u w
  | [], w, _, K => K w (Shut.refl _ _)
  | d :: ds, w, h, K => by
    cases h with
    | mark h1 h2 h3 h4 h5 h6 =>
      rename_i D
      refine ⟨hu, .inl ⟨D, _, rfl, run_takeDeferred h4, ?_⟩⟩
      have hs : Shut (fun b => ¬ O b ∧ base ≤ b) w (w.putObj D (.deferred none)) := Shut.put _ ⟨h1, h2⟩ h4 rfl
      have hs1 : Shut (fun b => b = D) w (w.putObj D (.deferred none)) := Shut.put _ rfl h4 rfl
      refine leaves_marks hu (O := O) (base := base) (μ := μ) (w := w.putObj D (.deferred none)) (h6.shut hs1 fun d hd D' e e' => h5 d hd (by rw [e, e'])) fun w' hw' => K w' ⟨hw'.size.trans hs.size, fun b => ?_, hw'.os.trans hs.os, hw'.tape.trans hs.tape, hw'.output.trans hs.output⟩
      by_cases e : b = D
      · subst e; exact .inr ⟨⟨h1, h2⟩, _, h4, rfl⟩
      · rcases hw'.block b with h7 | ⟨h7, o, h8, h9⟩
        · exact .inl (h7.trans (World.putObj_heap_other e))
        · exact .inr ⟨h7, o, by rw [← World.putObj_heap_other (o := .deferred none) e]; exact h8, h9⟩
theorem RelSt.shutEnd {cx : Cx} {μ : Mu} {st : List (Nat × Blk)} {w w' : World} (hr : RelSt cx μ st w) (h : Shut (fun b => ¬ cx.O st μ b ∧ cx.base ≤ b) w w') : RelSt cx μ st w' :=
 hr.shut (w0 := cx.w0) h (fun x k b m h1 h2 _ hz => hz.1 (.inr ⟨x, k, m, h1, h2⟩)) ⟨rfl, rfl, rfl⟩ fun b hb hA => by
  rcases h.block b with h1 | ⟨⟨_, h1⟩, _⟩
  · exact h1.trans (hr.keep b hb hA)
  · omega
section
variable {P : Program} {N : Nat} {cx : Cx} {s : St}
theorem pack_rep {O : Nat → Prop} {base : Nat} {w : World} {μ : Mu} {gs : List G} {vs : List Value} (hl : vs.length = gs.length) (hr : ∀ (j : Nat) (g : G) (v : Value), gs[j]? = some g → vs[j]? = some v → RepV O base w μ g v) :
  RepV O base w μ (pack gs) (if h : vs.toArray.size = 1 then vs.toArray[0] else .tuple vs.toArray) := by
 match gs, vs, hl, hr with
 | [], [], _, hr => exact .tup [] [] rfl hr
 | [g], [v], _, hr => exact hr 0 g v rfl rfl
 | g :: g' :: gs, v :: v' :: vs, hl, hr =>
  rw [dif_neg (by simp)]
  exact .tup _ _ hl hr
theorem results_eq (fn : Func) (a : Act) : results fn a.tmps = (do let vs ← fn.results.mapM (resSem a); pure (if h : vs.size = 1 then vs[0] else .tuple vs)) := rfl
theorem run_mapM_array {α : Type} (f : α → Sem Value) (xs : Array α) (w w' : World) (vs : List Value) (h : (xs.toList.mapM f).run P w = .ok vs w') : (xs.mapM f).run P w = .ok vs.toArray w' := by
 rw [Array.mapM_eq_mapM_toList]
 simp [Sem.run_map, h]
theorem GP.of {f : FuncId} {fn : Func} {c : Code} {args : List G} {st : List (Nat × Blk)} {Q : G → List (Nat × Blk) → Prop} {Qp : List PanicEntry → List (Nat × Blk) → Prop} (hf : P.funcs[f]? = some fn) (hb : fn.body = some c) (hN : fn.ntmps = N) (hle : Nat.ble args.length N = true)
    (h : ∀ cx, cx.ro = none → GW P N cx c (RetP P fn Q Qp) { fr := frameOf args 0, st := st, df := [] }) : GP P f args st Q Qp := by
  intro X μ w vs hX hst hl ha
  have hle := Nat.le_of_ble_eq_true hle
  have hrel : Rel N (cx0 X st μ w) μ { fr := frameOf args 0, st := st, df := [] } { tmps := vs.toArray ++ Array.replicate (fn.ntmps - vs.toArray.size) undef, defers := [] } w := by
    refine { st := hst, nd := .nil, sz := by simp; omega, fr := fun t g hg => ?_ }
    obtain ⟨_, h2⟩ := get_frameOf hg
    simp only [Nat.sub_zero] at h2
    have ht : t < vs.length := by have := (List.getElem?_eq_some_iff.1 h2).1; omega
    refine ⟨vs[t], ?_, ha t g vs[t] h2 (List.getElem?_eq_getElem ht)⟩
    rw [Array.getElem?_append_left (by simpa using ht)]
    simp [ht]
  refine callsIn_FF.1 (callsIn_of_wp_marks (F := FF none) (n := 0) hf hb trivial ?_)
  refine wpIn_mono (h (cx0 X st μ w) rfl μ _ w hrel) fun e a' w' hl => ?_
  have fin : ∀ (μ' : Mu) (s' : St), Rel N (cx0 X st μ w) μ' s' a' w' → RetP P fn Q Qp e s' → (e = .ret ∨ e = .normal) → LeavesInM (FF none) 0 P fn a'.tmps (Came X st μ w Q Qp) a'.defers .returning w' := by
    rintro μ' s' hr' hq he
    have hq : RetQ P fn Q e s' := by
      rcases hq with hq | ⟨c, h1, _⟩
      · exact hq
      · subst h1; rcases he with he | he <;> cases he
    obtain ⟨_, hdf, gs, r, st', h1, h2, h3, h4⟩ := hq
    have hnd := hr'.nd
    rw [hdf] at hnd
    refine leaves_marks (fun h => by cases h) hnd fun w'' hs => ?_
    have hr'' : Rel N (cx0 X st μ w) μ' { s' with df := [] } { a' with defers := [] } w'' :=
      { st := hr'.st.shutEnd hs, nd := .nil, sz := hr'.sz, fr := fun t g hg => let ⟨v, hv, hrv⟩ := hr'.fr t g hg; ⟨v, hv, hrv.shut hs⟩ }
    have h1' : Ress P { s' with df := [] } fn.results.toList gs := by
      have : ({ s' with df := [] } : St) = s' := by cases s'; simp only at hdf; subst hdf; rfl
      rw [this]; exact h1
    obtain ⟨vs', hl', hvs, hrun⟩ := h1'.run hr''
    have hp := pack_rep hl' hvs
    refine ⟨_, ?_, .inl ⟨_, r, st', μ', rfl, h4, hr''.st.sub h2, fzG_spec hr''.st (fun h k hk => ⟨k, h2.get hk⟩) hp h3⟩⟩
    have e1 : results fn a'.tmps = results fn ({ a' with defers := [] } : Act).tmps := rfl
    rw [e1, results_eq]
    simp only [Sem.run_bind, run_mapM_array _ _ _ _ _ hrun, Result.andThen_ok, Sem.run_pure]
  cases e with
  | normal => obtain ⟨μ', s', hr', hq⟩ := hl; exact fin μ' s' hr' hq (.inr rfl)
  | ret => obtain ⟨μ', s', hr', hq⟩ := hl; exact fin μ' s' hr' hq (.inl rfl)
  | panic ch =>
    obtain ⟨μ', s', h1, h2, h3, hq⟩ := hl
    rcases hq with ⟨hq, _⟩ | ⟨c', h4, hdf, st', h5, h6⟩
    · rcases hq with hq | hq <;> cases hq
    · cases h4
      rw [hdf] at h2
      refine leaves_marks (fun h => by cases h) h2 fun w'' hs => ?_
      exact .inr ⟨_, st', μ', rfl, h6, (h1.shutEnd hs).sub h5⟩
  | outgrown => exact hl.elim
  | exit id =>
    obtain ⟨μ', s', hr', hq⟩ := hl
    rcases hq with ⟨hq, _⟩ | ⟨c, hq, _⟩
    · rcases hq with hq | hq <;> cases hq
    · cases hq
  | goto l =>
    obtain ⟨μ', s', hr', hq⟩ := hl
    rcases hq with ⟨hq, _⟩ | ⟨c, hq, _⟩
    · rcases hq with hq | hq <;> cases hq
    · cases hq
theorem GM.of {f : FuncId} {fn : Func} {c : Code} {args : List G} {st : List (Nat × Blk)} {Q : G → List (Nat × Blk) → Prop} (hf : P.funcs[f]? = some fn) (hb : fn.body = some c) (hN : fn.ntmps = N) (hle : Nat.ble args.length N = true)
  (h : ∀ cx, cx.ro = none → GW P N cx c (RetQ P fn Q) { fr := frameOf args 0, st := st, df := [] }) : GM P f args st Q :=
 GP.of hf hb hN hle fun cx hro => (h cx hro).mono fun _ _ hq => .inl hq
def mapO (f : G → Option G) : List G → Option (List G)
 | [] => some []
 | g :: r => match f g, mapO f r with
  | some g', some r' => some (g' :: r')
  | _, _ => none
theorem mapO_get {f : G → Option G} : ∀ {gs gs' : List G}, mapO f gs = some gs' → gs'.length = gs.length ∧ ∀ (j : Nat) (g' : G), gs'[j]? = some g' → ∃ g, gs[j]? = some g ∧ f g = some g'
 | [], _, h => by cases h; exact ⟨rfl, fun j g h => by simp at h⟩
 | g :: r, gs', h => by
  simp only [mapO] at h
  cases h1 : f g with
  | none => rw [h1] at h; cases h
  | some g1 =>
   rw [h1] at h
   cases h2 : mapO f r with
   | none => rw [h2] at h; cases h
   | some r1 =>
    rw [h2] at h
    cases h
    obtain ⟨h3, h4⟩ := mapO_get h2
    refine ⟨by simp [h3], fun j g' hg' => ?_⟩
    cases j with
    | zero => cases hg'; exact ⟨g, rfl, h1⟩
    | succ j => exact h4 j g' hg'
def viewV : Value → G
 | .slice none 0 0 => .sl 0 []
 | v => .val v
theorem viewV_rep {O : Nat → Prop} {w : World} (v : Value) : RepI O w (viewV v) v := by
 unfold viewV
 split
 · exact .nil
 · exact .val _
def view : Nat → List (Nat × Blk) → G → Option G
 | 0, _, _ => none
 | n + 1, st, g => match g with
  | .val v => some (viewV v)
  | .sl n cs => some (.sl n cs)
  | .ptr cs => some (.ptr cs)
  | .fr g => some g
  | .osl h sz off m => match sget st h with
   | some k => match k.lp with
    | some _ => none
    | none => match k.pure with
     | true => some (.sl m ((k.cells.drop off).take (m * sz)))
     | false => match mapO (view n st) ((k.cells.drop off).take (m * sz)) with
      | some cs => some (.sl m cs)
      | none => none
   | none => none
  | .loc h off => match sget st h with
   | some k => match k.lp with
    | some _ => none
    | none => match k.pure with
     | true => some (.ptr (k.cells.drop off))
     | false => match mapO (view n st) (k.cells.drop off) with
      | some cs => some (.ptr cs)
      | none => none
   | none => none
  | .agg gs => match mapO (view n st) gs with
   | some gs' => some (.agg gs')
   | none => none
  | _ => none
theorem view_gen {st : List (Nat × Blk)} {O X : Nat → Prop} {base : Nat} {μ : Mu} {w : World} (hblk : ∀ h k, sget st h = some k → RelBlk O base w μ k (μ h)) (hout : ∀ h k b m, sget st h = some k → μ h = some (b, m) → ¬ X b) (hXO : ∀ b, X b → O b) :
    ∀ (n : Nat) {g g' : G} {v : Value}, RepV O base w μ g v → view n st g = some g' → RepI X w g' v
  | 0, _, _, _, _, h => by cases h
  | n + 1, g, g', v, hv, h => by
    have hX : ∀ {g v}, RepI O w g v → RepI X w g v := fun h => h.mono (Kept.refl _ _) fun b _ hn hx => hn (hXO b hx)
    have cells : ∀ (hh off cnt : Nat) (k : Blk) (b m : Nat) (cs : List G), sget st hh = some k → k.lp = none → μ hh = some (b, m) → (match k.pure with | true => some ((k.cells.drop off).take cnt) | false => mapO (view n st) ((k.cells.drop off).take cnt)) = some cs →
        ∃ us : Nat → Value, ¬ X b ∧ b < w.heap.size ∧ (∀ j, j < cs.length → w.cell? ⟨b, off + j, none⟩ = some (us j)) ∧ (∀ (j : Nat) (g : G), cs[j]? = some g → RepI X w g (us j)) ∧ cs.length ≤ m - off := by
      intro hh off cnt k b m cs hk hlp hm hcs
      have hb := hblk hh k hk
      rw [hm] at hb
      obtain ⟨vs, h1, h2, h3, h4, h5, h6⟩ := hb.cells hlp
      have rd : cs.length ≤ m - off ∧ ∀ (j : Nat) (g : G), cs[j]? = some g → ∃ v, vs[off + j]? = some v ∧ RepI X w g v := by
        cases hp : k.pure with
        | true =>
          rw [hp] at hcs
          cases hcs
          refine ⟨by rw [List.length_take, List.length_drop]; omega, fun j g hg => ?_⟩
          rw [List.getElem?_take] at hg
          split at hg
          · rw [List.getElem?_drop] at hg
            obtain ⟨v, hv, hrv⟩ := h6 _ g hg
            refine ⟨v, hv, ?_⟩
            unfold RepC at hrv
            rw [hp] at hrv
            exact hX (hrv.flag (f' := false) (fun h => by cases h))
          · cases hg
        | false =>
          rw [hp] at hcs
          obtain ⟨h7, h8⟩ := mapO_get hcs
          refine ⟨by rw [h7, List.length_take, List.length_drop]; omega, fun j g hg => ?_⟩
          obtain ⟨g0, h9, h10⟩ := h8 j g hg
          rw [List.getElem?_take] at h9
          split at h9
          · rw [List.getElem?_drop] at h9
            obtain ⟨v, hv, hrv⟩ := h6 _ g0 h9
            refine ⟨v, hv, ?_⟩
            unfold RepC at hrv
            rw [hp] at hrv
            exact view_gen hblk hout hXO n hrv h10
          · cases h9
      refine ⟨fun j => vs.getD (off + j) undef, hout hh k b m hk hm, lt_of_heap h1, fun j hj => ?_, fun j g hg => ?_, rd.1⟩
      · obtain ⟨v, hv, _⟩ := rd.2 j _ (List.getElem?_eq_getElem hj)
        rw [cell_of h1, hv]
        simp [hv]
      · obtain ⟨v, hv, hrv⟩ := rd.2 j g hg
        simpa [hv] using hrv
    cases g with
    | val u => cases h; cases hv with | imm hv => cases hv; exact viewV_rep _
    | sl m cs => cases h; cases hv with | imm hv => exact hX hv
    | ptr cs => cases h; cases hv with | imm hv => exact hX hv
    | fr g => cases h; cases hv with
      | imm hv => cases hv
      | fr hv => exact hX hv.old
    | osl hh sz off m =>
      simp only [view] at h
      cases hk : sget st hh with
      | none => rw [hk] at h; cases h
      | some k =>
        rw [hk] at h
        dsimp only at h
        cases hlp : k.lp with
        | some lp => rw [hlp] at h; cases h
        | none =>
        rw [hlp] at h
        dsimp only at h
        have key : ∃ cs, g' = .sl m cs ∧ (match k.pure with | true => some ((k.cells.drop off).take (m * sz)) | false => mapO (view n st) ((k.cells.drop off).take (m * sz))) = some cs := by
          cases hp : k.pure with
          | true => rw [hp] at h; cases h; exact ⟨_, rfl, rfl⟩
          | false =>
            rw [hp] at h
            dsimp only at h ⊢
            cases hq : mapO (view n st) ((k.cells.drop off).take (m * sz)) with
            | none => rw [hq] at h; cases h
            | some cs => rw [hq] at h; cases h; exact ⟨_, rfl, rfl⟩
        obtain ⟨cs, rfl, hcs⟩ := key
        have len0 : ∀ {cs}, m * sz = 0 → (match k.pure with | true => some ((k.cells.drop off).take (m * sz)) | false => mapO (view n st) ((k.cells.drop off).take (m * sz))) = some cs → cs = [] := by
          intro cs h0 h
          rw [h0, List.take_zero] at h
          cases hp : k.pure with
          | true => rw [hp] at h; cases h; rfl
          | false => rw [hp] at h; cases h; rfl
        cases hv with
        | imm hv => cases hv
        | onil _ _ hm =>
          rw [len0 (Nat.zero_mul _) hcs]
          exact .nil
        | osl _ _ _ _ b m0 cap hm hn hc =>
          obtain ⟨us, h1, h2, h3, h4, _⟩ := cells hh off (m * sz) k b m0 cs hk hlp hm hcs
          exact .sl m cs b off cap us hn h1 h2 h3 h4
        | ozero _ _ off0 b _ hm hpos =>
          rw [len0 (Nat.zero_mul _) hcs]
          obtain ⟨us, h1, h2, _⟩ := cells hh off (0 * sz) k b off cs hk hlp hm hcs
          exact .sl 0 [] b off0 0 us (Nat.le_refl _) h1 h2 (fun j hj => by simp at hj) (fun j g hg => by simp at hg)
    | loc hh off =>
      simp only [view] at h
      cases hk : sget st hh with
      | none => rw [hk] at h; cases h
      | some k =>
        rw [hk] at h
        dsimp only at h
        cases hlp : k.lp with
        | some lp => rw [hlp] at h; cases h
        | none =>
        rw [hlp] at h
        dsimp only at h
        have tk : (k.cells.drop off).take (k.cells.length) = k.cells.drop off := List.take_of_length_le (by rw [List.length_drop]; omega)
        have key : ∃ cs, g' = .ptr cs ∧ (match k.pure with | true => some ((k.cells.drop off).take k.cells.length) | false => mapO (view n st) ((k.cells.drop off).take k.cells.length)) = some cs := by
          rw [tk]
          cases hp : k.pure with
          | true => rw [hp] at h; cases h; exact ⟨_, rfl, rfl⟩
          | false =>
            rw [hp] at h
            dsimp only at h ⊢
            cases hq : mapO (view n st) (k.cells.drop off) with
            | none => rw [hq] at h; cases h
            | some cs => rw [hq] at h; cases h; exact ⟨_, rfl, rfl⟩
        obtain ⟨cs, rfl, hcs⟩ := key
        cases hv with
        | imm hv => cases hv
        | loc _ _ b m0 hm =>
          obtain ⟨us, h1, h2, h3, h4, _⟩ := cells hh off _ k b m0 cs hk hlp hm hcs
          exact .ptr cs b off us h1 h2 h3 h4
    | agg gs =>
      simp only [view] at h
      cases hq : mapO (view n st) gs with
      | none => rw [hq] at h; cases h
      | some gs' =>
        rw [hq] at h
        cases h
        obtain ⟨h1, h2⟩ := mapO_get hq
        have key : ∃ us : List Value, v = .agg us.toArray ∧ us.length = gs.length ∧ ∀ (j : Nat) (g : G) (v : Value), gs[j]? = some g → us[j]? = some v → RepV O base w μ g v := by
          cases hv with
          | imm hv => cases hv with
            | agg _ us hl hr => exact ⟨us, rfl, hl, fun j g v h1 h2 => .imm (hr j g v h1 h2)⟩
          | agg _ us hl hr => exact ⟨us, rfl, hl, hr⟩
        obtain ⟨us, rfl, hl, hr⟩ := key
        refine .agg gs' us (by omega) fun j g v hg hv => ?_
        obtain ⟨g0, h3, h4⟩ := h2 j g hg
        exact view_gen hblk hout hXO n (hr j g0 v h3 hv) h4
    | _ => cases h
theorem view_spec {st : List (Nat × Blk)} {μ : Mu} {w : World} (hst : RelSt cx μ st w) (n : Nat) {g g' : G} {v : Value} (hv : RepV (cx.O st μ) cx.base w μ g v) (h : view n st g = some g') : RepI cx.X w g' v :=
 view_gen hst.blk (fun h k b m h1 h2 => (hst.out h k b m h1 h2).1) (fun _ h => .inl h) n hv h
def freshG : G → Bool
 | .val _ => true
 | .fr _ => true
 | .agg gs => go gs
 | .tup gs => go gs
 | _ => false
where go : List G → Bool
 | [] => true
 | g :: r => freshG g && go r
theorem freshG_go {gs : List G} (h : freshG.go gs = true) : ∀ (j : Nat) (g : G), gs[j]? = some g → freshG g = true := by
 induction gs with
 | nil => intro j g hg; simp at hg
 | cons x r ih =>
  simp only [freshG.go, Bool.and_eq_true] at h
  intro j g hg
  cases j with
  | zero => cases hg; exact h.1
  | succ j => exact ih h.2 j g hg
end
end Go.AM
/-
 AM, part M: calls of functions by their contracts.
-/
namespace Go.AM
def viewA (n : Nat) (st : List (Nat × Blk)) : G → Option G
 | .clo f caps => match mapO (view n st) caps with
  | some c => some (.clo f c)
  | none => none
 | g => view n st g
def evA (s : St) : List Operand → Option (List G)
 | [] => some []
 | x :: r => match ev s x, evA s r with
  | some g, some gs => some (g :: gs)
  | _, _ => none
section
variable {P : Program} {N : Nat} {cx : Cx} {s : St}
theorem evA_get : ∀ {xs : List Operand} {gs : List G}, evA s xs = some gs → gs.length = xs.length ∧ ∀ (j : Nat) (g : G), gs[j]? = some g → ∃ x, xs[j]? = some x ∧ ev s x = some g
 | [], _, h => by cases h; exact ⟨rfl, fun j g h => by simp at h⟩
 | x :: r, gs, h => by
  simp only [evA] at h
  cases h1 : ev s x with
  | none => rw [h1] at h; cases h
  | some g1 =>
   rw [h1] at h
   cases h2 : evA s r with
   | none => rw [h2] at h; cases h
   | some r1 =>
    rw [h2] at h
    cases h
    obtain ⟨h3, h4⟩ := evA_get h2
    refine ⟨by simp [h3], fun j g' hg' => ?_⟩
    cases j with
    | zero => cases hg'; exact ⟨x, rfl, h1⟩
    | succ j => exact h4 j g' hg'
theorem viewA_spec {O : Nat → Prop} {base : Nat} {st : List (Nat × Blk)} {μ μ' : Mu} {w : World} (hst : RelSt cx μ st w) (n : Nat) {g g' : G} {v : Value} (hv : RepV (cx.O st μ) cx.base w μ g v) (h : viewA n st g = some g')
  (hO : ∀ b, b < w.heap.size → ¬ cx.X b → ¬ O b) : RepV O base w μ' g' v := by
 have up : ∀ {g v}, RepI cx.X w g v → RepV O base w μ' g v := fun h => .imm (h.mono (Kept.refl _ _) hO)
 cases g with
 | clo f caps =>
  simp only [viewA] at h
  cases hq : mapO (view n st) caps with
  | none => rw [hq] at h; cases h
  | some c =>
   rw [hq] at h
   cases h
   obtain ⟨h1, h2⟩ := mapO_get hq
   cases hv with
   | imm hv => cases hv
   | clo _ _ us hl hr =>
    refine .clo f c us (by omega) fun j g v hg hv => ?_
    obtain ⟨g0, h3, h4⟩ := h2 j g hg
    exact up (view_spec hst n (hr j g0 v h3 hv) h4)
 | _ => exact up (view_spec hst n hv h)
theorem RelSt.kept {μ : Mu} {st : List (Nat × Blk)} {w w' : World} (h : RelSt cx μ st w) (hsz : w.heap.size ≤ w'.heap.size) (hb : ∀ b, b < w.heap.size → w'.heap[b]? = w.heap[b]?) (hos : w'.os = w.os) (htape : w'.tape = w.tape) (hout : w'.output = w.output) : RelSt cx μ st w' := by
  have hk : ∀ O, Kept O w w' := fun O => ⟨hsz, fun b h _ => hb b h⟩
  refine { blk := ?_, inj := h.inj, out := h.out, pin := h.pin, xlt := h.xlt, hb := Nat.le_trans h.hb hsz, os := hos.trans h.os, tape := htape.trans h.tape, output := hout.trans h.output, keep := fun b h1 h2 => ?_ }
  · intro x k hx
    refine (h.blk x k hx).mono (fun b m hm => hb b ?_) (hk _) (fun _ _ h => h)
    have := h.blk x k hx
    rw [hm] at this
    obtain ⟨⟨o, h1⟩, _⟩ := this.heap
    exact lt_of_heap h1
  · rw [hb b (by have := h.hb; omega)]; exact h.keep b h1 h2
theorem Rel.kept {μ : Mu} {a : Act} {w w' : World} (h : Rel N cx μ s a w) (hsz : w.heap.size ≤ w'.heap.size) (hb : ∀ b, b < w.heap.size → w'.heap[b]? = w.heap[b]?) (hos : w'.os = w.os) (htape : w'.tape = w.tape) (hout : w'.output = w.output) : Rel N cx μ s a w' :=
 { st := h.st.kept hsz hb hos htape hout, nd := h.nd.mono ⟨hsz, fun b h _ => hb b h⟩ (fun _ _ h => h), sz := h.sz, fr := fun t g hg => let ⟨v, hv, hr⟩ := h.fr t g hg; ⟨v, hv, hr.mono ⟨hsz, fun b h _ => hb b h⟩ (fun _ _ h => h) (Nat.le_refl _)⟩ }
theorem own_lt {μ : Mu} {st : List (Nat × Blk)} {w : World} (h : RelSt cx μ st w) {b : Nat} (ho : Own st μ b) : b < w.heap.size := by
 obtain ⟨x, k, m, h1, h2⟩ := ho
 have := h.blk x k h1
 rw [h2] at this
 obtain ⟨⟨o, h3⟩, _⟩ := this.heap
 exact lt_of_heap h3
theorem relSt_nil {X : Nat → Prop} {μ : Mu} {w : World} (hX : ∀ b, X b → b < w.heap.size) : RelSt (cx0 X [] μ w) μ [] w :=
 { blk := fun _ _ h => (by cases h), inj := fun _ _ _ _ _ _ _ h => (by cases h), out := fun _ _ _ _ h => (by cases h), pin := fun _ _ h => (by cases h), xlt := hX, hb := Nat.le_refl _, os := rfl, tape := rfl, output := rfl, keep := fun _ _ _ => rfl }
theorem own_nil {μ : Mu} {b : Nat} : ¬ Own [] μ b := fun ⟨_, _, _, h, _⟩ => by cases h
variable {ty : TypeId} {pos : String} {after : Array Edge} {guard : Option (Nat × Bool)} {W : List Nat} {d : Nat}
theorem call_core {f : FuncId} {vs : List Value} {gs gs' : List G} {Q : G → List (Nat × Blk) → Prop} (n : Nat) {μ : Mu} {a : Act} {w : World} (hr : Rel N cx μ s a w) (hv : mapO (viewA n s.st) gs = some gs')
    (hvs : vs.length = gs.length) (hrep : ∀ (j : Nat) (g : G) (v : Value), gs[j]? = some g → vs[j]? = some v → RepV (cx.O s.st μ) cx.base w μ g v)
    (hcon : GM P f gs' [] Q) (hres : ∀ r st', Q r st' → freshG r = true) :
    Calls P f vs.toArray w fun e w' => ∃ v r st', e = .returned v ∧ Q r st' ∧ Rel N cx μ s a w' ∧ RepV (cx.O s.st μ) cx.base w' μ r v ∧ Step W s.st μ s.st μ w w' := by
  obtain ⟨h1, h2⟩ := mapO_get hv
  have hX : ∀ b, cx.X b → b < w.heap.size := fun b hb => by have := hr.st.xlt b hb; have := hr.st.hb; omega
  refine (hcon.returned cx.X (fun _ => none) w vs hX (relSt_nil hX) (by omega) fun j g v hg hv => ?_).mono ?_
  · obtain ⟨g0, h3, h4⟩ := h2 j g hg
    exact viewA_spec hr.st n (hrep j g0 v h3 hv) h4 fun b _ hn ho => ho.elim hn own_nil
  · rintro e w' ⟨v, r, st', μ', rfl, hq, hst, hrv⟩
    have hkeep : ∀ b, b < w.heap.size → w'.heap[b]? = w.heap[b]? := fun b hb => hst.keep b hb own_nil
    refine ⟨v, r, st', rfl, hq, hr.kept hst.hb hkeep hst.os hst.tape hst.output, ?_, ⟨hst.hb, fun b hb _ => hkeep b hb, fun h k b m hw h1 h2 => .inl ⟨h, k, m, hw, h1, h2⟩⟩⟩
    have hf := hres r st' hq
    have hb := hr.st.hb
    have hxl := hr.st.xlt
    have hol : ∀ b, Own s.st μ b → b < w.heap.size := fun b ho => own_lt hr.st ho
    -- as 'freshG_spec'
    generalize hO : (cx0 cx.X [] (fun _ => none) w).O st' μ' = O at hrv
    have imm : ∀ {g : G} {v : Value}, RepI O w' g v → freshG g = true → RepV (cx.O s.st μ) cx.base w' μ g v := by
      intro g v h
      induction h with
      | any v => intro hf; cases hf
      | val v => intro _; exact .imm (.val v)
      | nil => intro hf; cases hf
      | emp _ _ => intro hf; cases hf
      | sl _ _ _ _ _ _ _ _ _ _ _ => intro hf; cases hf
      | ptr _ _ _ _ _ _ _ _ => intro hf; cases hf
      | agg cells us hl hr ih => intro hf; exact .agg cells us hl fun j g v hg hv => ih j g v hg hv (freshG_go hf j g hg)
    clear hq
    induction hrv with
    | imm h => exact imm h hf
    | fr h =>
      refine .fr (h.mono (Kept.refl _ _) ?_)
      rintro b hb1 hn (ho | ho | ho)
      · exact hn (.inl (by show b < w.heap.size; omega))
      · exact hn (.inl (by have := hxl b ho; show b < w.heap.size; omega))
      · exact hn (.inl (hol b ho))
    | agg cells us hl hr ih => exact .agg cells us hl fun j g v hg hv => ih j g v hg hv (freshG_go hf j g hg)
    | tup cells us hl hr ih => exact .tup cells us hl fun j g v hg hv => ih j g v hg hv (freshG_go hf j g hg)
    | _ => cases hf
theorem EF.call {f : FuncId} {xs : Array Operand} {ts : Array TypeId} {gs gs' : List G} {Q : G → List (Nat × Blk) → Prop} (n : Nat) (hc : ∀ args w, (callFunc f args).run P w = .ok (.enter f args) w)
  (hx : evA s xs.toList = some gs) (hv : mapO (viewA n s.st) gs = some gs') (hcon : GM P f gs' [] Q) (hres : ∀ r st', Q r st' → freshG r = true) :
  Effect P W s ⟨some d, .call ⟨.value (.func f), xs, ts⟩, ty, pos, after, guard⟩ (fun s' => ∃ r st', Q r st' ∧ s' = s.put d r) := by
 refine ⟨(fun _ h => by cases h), ?_⟩
 intro N cx μ a w hr hN K Q' hK
 obtain ⟨h1, h2⟩ := evA_get hx
 have hcall := call_core (vs := xs.toList.map a.eval) (W := W) n hr hv (by simp [h1]) (fun j g v hg hv => by
  obtain ⟨x, hxj, he⟩ := h2 j g hg
  rw [List.getElem?_map, hxj] at hv
  cases hv
  exact hr.ev he) hcon hres
 unfold Oper.wp
 have : (execOp a.eval ⟨some d, .call ⟨.value (.func f), xs, ts⟩, ty, pos, after, guard⟩).run P w = .ok (.enter f (xs.toList.map a.eval).toArray) w := by
  have e : xs.map a.eval = (xs.toList.map a.eval).toArray := by rw [← Array.toList_map]
  simp [execOp, resolve, invoke, Deferred.ofValue, Act.eval, hc, e]
 rw [this]
 refine hcall.mono ?_
 rintro e w' ⟨v, r, st', rfl, hq, hr', hrv, hst⟩
 exact hK μ _ _ w' (hr'.put (hN d rfl) hrv) ⟨r, st', hq, rfl⟩ hst
theorem EF.callV {f : FuncId} {x : Operand} {xs : Array Operand} {ts : Array TypeId} {gs caps gs' : List G} {Q : G → List (Nat × Blk) → Prop} (n : Nat) (hc : ∀ args w, (callFunc f args).run P w = .ok (.enter f args) w)
    (hf : ev s x = some (.clo f caps)) (hx : evA s xs.toList = some gs) (hv : mapO (viewA n s.st) (gs ++ caps) = some gs') (hcon : GM P f gs' [] Q) (hres : ∀ r st', Q r st' → freshG r = true) :
    Effect P W s ⟨some d, .call ⟨.value x, xs, ts⟩, ty, pos, after, guard⟩ (fun s' => ∃ r st', Q r st' ∧ s' = s.put d r) := by
  refine ⟨(fun _ h => by cases h), ?_⟩
  intro N cx μ a w hr hN K Q' hK
  obtain ⟨h1, h2⟩ := evA_get hx
  have hcl := hr.ev hf
  generalize hav : a.eval x = vf at hcl
  cases hcl with
  | imm h => cases h
  | clo _ _ us hl hrc =>
    have hcall := call_core (vs := xs.toList.map a.eval ++ us) (W := W) n hr hv (by simp [h1, hl]) (fun j g v hg hv => by
      rw [List.getElem?_append] at hg hv
      rw [List.length_map, ← h1] at hv
      split at hg
      · rename_i hj
        rw [if_pos hj] at hv
        obtain ⟨x, hxj, he⟩ := h2 j g hg
        rw [List.getElem?_map, hxj] at hv
        cases hv
        exact hr.ev he
      · rename_i hj
        rw [if_neg hj] at hv
        exact hrc _ g v hg hv) hcon hres
    unfold Oper.wp
    have : (execOp a.eval ⟨some d, .call ⟨.value x, xs, ts⟩, ty, pos, after, guard⟩).run P w = .ok (.enter f (xs.toList.map a.eval ++ us).toArray) w := by
      have e : xs.map a.eval ++ us.toArray = (xs.toList.map a.eval ++ us).toArray := by rw [← List.append_toArray, ← Array.toList_map]
      simp [execOp, resolve, invoke, Deferred.ofValue, hav, hc, e]
    rw [this]
    refine hcall.mono ?_
    rintro e w' ⟨v, r, st', rfl, hq, hr', hrv, hst⟩
    exact hK μ _ _ w' (hr'.put (hN d rfl) hrv) ⟨r, st', hq, rfl⟩ hst
end
end Go.AM
/-
 AM, part N: the steps in the form in which a walk takes them; encodings.
-/
namespace Go.AM
section
variable {P : Program} {N : Nat} {cx : Cx} {Q : Exit → St → Prop} {s : St} {ops : Array Oper} {rest : List Oper}
variable {d : Nat} {op : Op} {ty : TypeId} {pos : String} {after : Array Edge} {guard : Option (Nat × Bool)}
theorem GL.py {g : G} (hy : PY P s ⟨some d, op, ty, pos, after, guard⟩ g) (hw : wants ops s guard = some true) (hN : Nat.blt d N = true) (h : GL P N cx ops Q rest (s.put d g)) :
  GL P N cx ops Q (⟨some d, op, ty, pos, after, guard⟩ :: rest) s := GL.yield hw rfl (by simpa [Nat.blt_eq] using hN) (hy.yield []) h
theorem GL.y {g : G} (hy : Yield P [] s ⟨some d, op, ty, pos, after, guard⟩ g) (hw : wants ops s guard = some true) (hN : Nat.blt d N = true) (h : GL P N cx ops Q rest (s.put d g)) :
  GL P N cx ops Q (⟨some d, op, ty, pos, after, guard⟩ :: rest) s := GL.yield hw rfl (by simpa [Nat.blt_eq] using hN) hy h
theorem GL.e {W : List Nat} {T : St → Prop} (he : Effect P W s ⟨some d, op, ty, pos, after, guard⟩ T) (hw : wants ops s guard = some true) (hN : Nat.blt d N = true) (h : ∀ s', T s' → GL P N cx ops Q rest s') :
  GL P N cx ops Q (⟨some d, op, ty, pos, after, guard⟩ :: rest) s := GL.effect hw (fun d' e => by cases e; simpa [Nat.blt_eq] using hN) he h
theorem GL.e1 {W : List Nat} {s1 : St} (he : Effect P W s ⟨some d, op, ty, pos, after, guard⟩ (· = s1)) (hw : wants ops s guard = some true) (hN : Nat.blt d N = true) (h : GL P N cx ops Q rest s1) :
  GL P N cx ops Q (⟨some d, op, ty, pos, after, guard⟩ :: rest) s := GL.e he hw hN fun _ e => e ▸ h
theorem GL.e0 {W : List Nat} {s1 : St} (he : Effect P W s ⟨none, op, ty, pos, after, guard⟩ (· = s1)) (hw : wants ops s guard = some true) (h : GL P N cx ops Q rest s1) :
  GL P N cx ops Q (⟨none, op, ty, pos, after, guard⟩ :: rest) s := GL.effect hw (fun d' e => by cases e) he fun _ e => e ▸ h
end
def ints (l : List Int) : List G := l.map fun n => .val (.int .i64 n)
@[simp] theorem ints_length (l : List Int) : (ints l).length = l.length := by simp [ints]
end Go.AM
/-
 AM, part O: data as Lean data: encodings; loops and joins as partial functions.
-/
namespace Go.AM
inductive Ex (β γ : Type) where
 | brk (b : β)
 | ret (r : γ)
def bindE {β γ ο : Type} (inj : γ → ο) (m : Option (Ex β γ)) (k : β → Option ο) : Option ο :=
 match m with
 | some (.brk b) => k b
 | some (.ret r) => some (inj r)
 | none => none
def loopF {σ ρ : Type} (body : σ → Option (σ ⊕ ρ)) : Nat → σ → Option ρ
 | 0, _ => none
 | n + 1, x => match body x with
  | some (.inl x') => loopF body n x'
  | some (.inr r) => some r
  | none => none
def idx {α : Type} (l : List α) (i : Int) : Option α := if 0 ≤ i then l[i.toNat]? else none
def bidx (l : ByteArray) (i : Int) : Option UInt8 := if 0 ≤ i then l[i.toNat]? else none
theorem bidx_spec {l : ByteArray} {i : Int} {x : UInt8} (h : bidx l i = some x) : 0 ≤ i ∧ l[i.toNat]? = some x := by
 unfold bidx at h
 split at h
 · rename_i h0; exact ⟨h0, h⟩
 · cases h
def chk (p : Prop) [Decidable p] : Option Unit := if p then some () else none
theorem idx_spec {α : Type} {l : List α} {i : Int} {x : α} (h : idx l i = some x) : 0 ≤ i ∧ i < (l.length : Int) ∧ l[i.toNat]? = some x := by
  unfold idx at h
  split at h
  · rename_i h0
    have := (List.getElem?_eq_some_iff.1 h).1
    exact ⟨h0, by omega, h⟩
  · cases h
theorem chk_spec {p : Prop} [Decidable p] {u : Unit} (h : chk p = some u) : p := by
 unfold chk at h
 split at h
 · assumption
 · cases h
theorem bind_some {α β : Type} {m : Option α} {k : α → Option β} {r : β} (h : m.bind k = some r) : ∃ x, m = some x ∧ k x = some r := Option.bind_eq_some_iff.1 h
theorem bindE_some {β γ ο : Type} {inj : γ → ο} {m : Option (Ex β γ)} {k : β → Option ο} {r : ο} (h : bindE inj m k = some r) : ∃ e, m = some e ∧ (∀ b, e = .brk b → k b = some r) ∧ (∀ r', e = .ret r' → inj r' = r) := by
 unfold bindE at h
 split at h
 · exact ⟨_, rfl, fun b e => (by cases e; exact h), fun r' e => (by cases e)⟩
 · exact ⟨_, rfl, fun b e => (by cases e), fun r' e => (by cases e; cases h; rfl)⟩
 · cases h
theorem condT {α : Type} {b : Bool} {x y : α} {r : α} (h : b = true) (H : cond b x y = r) : x = r := by rw [h] at H; exact H
theorem condF {α : Type} {b : Bool} {x y : α} {r : α} (h : b = false) (H : cond b x y = r) : y = r := by rw [h] at H; exact H
section
variable {P : Program} {N : Nat} {cx : Cx} {Q : Exit → St → Prop}
def QB {β : Type} (ke : Exit) (E : β → St) (b : β) (ex : Exit) (s : St) : Prop := ex = ke ∧ Sub s (E b)
def QL {σ ρ : Type} (E : σ → St) (R : ρ → Exit → St → Prop) : σ ⊕ ρ → Exit → St → Prop
 | .inl x, ex, s => ex = .normal ∧ Sub s (E x)
 | .inr r, ex, s => ex ≠ .normal ∧ R r ex s
theorem GW.loopF {σ ρ : Type} {c : Code} (E : σ → St) (R : ρ → Exit → St → Prop) {body : σ → Option (σ ⊕ ρ)} {n : Nat} {x0 : σ} {e : ρ} (hl : AM.loopF body n x0 = some e)
  (hr : ∀ x o, body x = some o → GW P N cx c (QL E R o) (E x)) (hq : ∀ ex s, ex ≠ .normal → R e ex s → Q ex s) : GW P N cx (.loop c) Q (E x0) := by
 let Step : Nat → σ → Prop := fun k x => AM.loopF body k x = some e
 refine (GW.loop (P := P) (N := N) (cx := cx) (Q := Q) (σ := Nat × σ) (fun x => E x.2) (fun x => Step x.1 x.2) (fun x => x.1) (n, x0) hl ?_)
 rintro ⟨k, x⟩ hI
 cases k with
 | zero => exact absurd hI (by simp [Step, AM.loopF])
 | succ k =>
  simp only [Step, AM.loopF] at hI
  cases hb : body x with
  | none => rw [hb] at hI; cases hI
  | some o =>
   rw [hb] at hI
   refine (hr x o hb).mono fun ex s hx => ?_
   cases o with
   | inl x' =>
    obtain ⟨rfl, hs⟩ := hx
    exact ⟨(k, x'), hI, Nat.lt_succ_self k, hs⟩
   | inr r =>
    cases hI
    obtain ⟨h1, h2⟩ := hx
    have := hq ex s h1 h2
    cases ex <;> first | exact absurd rfl h1 | exact this
theorem QB.mk {β : Type} {ke : Exit} {E : β → St} {b : β} {s : St} (h : Sub s (E b)) : QB ke E b ke s := ⟨rfl, h⟩
theorem exit_ne {id : Nat} : Exit.exit id ≠ Exit.normal := fun h => by cases h
theorem RetQ.mk {fn : Func} {Qf : G → List (Nat × Blk) → Prop} {s : St} {e : Exit} (he : e = .ret ∨ e = .normal) (gs : List G) (r : G) (st' : List (Nat × Blk)) (h1 : Ress P s fn.results.toList gs) (h2 : SubSt s.st st') (h3 : fzG s.st st' (pack gs) = some r) (h4 : Qf r st') (hdf : s.df = [] := by rfl) : RetQ P fn Qf e s :=
 ⟨he, hdf, gs, r, st', h1, h2, h3, h4⟩
theorem GW.join {x y : Code} {s : St} {o : Exit → St → Prop} (h1 : GW P N cx x o s) (h2 : ∀ ex s', o ex s' → Ethen (GW P N cx y Q) Q ex s') : GW P N cx (.seq x y) Q s :=
 GW.seq (h1.mono h2)
end
def okI (n : Int) : Prop := -9223372036854775808 ≤ n ∧ n ≤ 9223372036854775807
def okS (s : ByteArray) : Prop := s.size ≤ 9223372036854775807
def okL {α : Type} (ok : α → Prop) (l : List α) : Prop := l.length ≤ 9223372036854775807 ∧ ∀ x ∈ l, ok x
class Enc (α : Type) where
 sz : Nat
 cells : α → List G
 len : ∀ a, (cells a).length = sz
 pos : 0 < sz
 one : ∀ a g, g ∈ cells a → g.one = true
def encs {α : Type} [Enc α] (l : List α) : List G := l.flatMap Enc.cells
instance : Enc Int := ⟨1, fun n => [.val (.int .i64 n)], fun _ => rfl, by decide, fun a g h => by simp at h; subst h; rfl⟩
instance : Enc Bool := ⟨1, fun n => [.val (.bool n)], fun _ => rfl, by decide, fun a g h => by simp at h; subst h; rfl⟩
instance : Enc ByteArray := ⟨1, fun n => [.val (.string n)], fun _ => rfl, by decide, fun a g h => by simp at h; subst h; rfl⟩
instance {α : Type} [Enc α] : Enc (List α) := ⟨1, fun l => [.sl l.length (encs l)], fun _ => rfl, by decide, fun a g h => by simp at h; subst h; rfl⟩
section
variable {α : Type} [Enc α]
theorem encs_length (l : List α) : (encs l).length = l.length * Enc.sz α := by
 unfold encs
 induction l with
 | nil => simp
 | cons x r ih => rw [List.flatMap_cons, List.length_append, ih, Enc.len, List.length_cons, Nat.add_mul]; omega
theorem encs_one (l : List α) : ∀ g, g ∈ encs l → g.one = true := by
 intro g hg
 obtain ⟨a, _, h⟩ := List.mem_flatMap.1 hg
 exact Enc.one a g h
theorem encs_get {l : List α} {i : Nat} {x : α} (h : l[i]? = some x) {j : Nat} (hj : j < Enc.sz α) : (encs l)[i * Enc.sz α + j]? = (Enc.cells x)[j]? := by
 unfold encs
 rw [flatMap_get Enc.cells (Enc.sz α) Enc.pos l (fun a _ => Enc.len a)]
 have h1 : (i * Enc.sz α + j) / Enc.sz α = i := by
  rw [Nat.mul_comm, Nat.mul_add_div Enc.pos, Nat.div_eq_of_lt hj]; rfl
 have h2 : (i * Enc.sz α + j) % Enc.sz α = j := by
  rw [Nat.mul_comm, Nat.mul_add_mod, Nat.mod_eq_of_lt hj]
 rw [h1, h2, h]
 rfl
theorem encs_drop_get {l : List α} {i : Nat} {x : α} (h : l[i]? = some x) {j : Nat} (hj : j < Enc.sz α) : ((encs l).drop (i * Enc.sz α))[j]? = (Enc.cells x)[j]? := by
 rw [List.getElem?_drop]; exact encs_get h hj
theorem encs_append (l m : List α) : encs (l ++ m) = encs l ++ encs m := by simp [encs]
theorem encs_cons (x : α) (l : List α) : encs (x :: l) = Enc.cells x ++ encs l := rfl
theorem encs_take_full (l : List α) : (encs l).take (l.length * Enc.sz α) = encs l := List.take_of_length_le (by rw [encs_length]; exact Nat.le_refl _)
theorem encs_take (l : List α) (n : Nat) : (encs l).take (n * Enc.sz α) = encs (l.take n) := by
 unfold encs
 induction l generalizing n with
 | nil => simp
 | cons x r ih =>
  cases n with
  | zero => simp
  | succ n =>
   rw [List.take_succ_cons, List.flatMap_cons, List.flatMap_cons, List.take_append, Enc.len, ← ih n]
   have h1 : (n + 1) * Enc.sz α - Enc.sz α = n * Enc.sz α := by rw [Nat.add_mul]; omega
   rw [h1, List.take_of_length_le (by rw [Enc.len, Nat.add_mul]; omega)]
theorem encs_drop (l : List α) (n : Nat) : (encs l).drop (n * Enc.sz α) = encs (l.drop n) := by
 unfold encs
 induction l generalizing n with
 | nil => simp
 | cons x r ih =>
  cases n with
  | zero => simp
  | succ n =>
   rw [List.drop_succ_cons, List.flatMap_cons, List.drop_append, Enc.len, ← ih n]
   have h1 : (n + 1) * Enc.sz α - Enc.sz α = n * Enc.sz α := by rw [Nat.add_mul]; omega
   rw [h1, List.drop_of_length_le (by rw [Enc.len, Nat.add_mul]; omega), List.nil_append]
theorem encs_set {l : List α} {i : Nat} {x : α} {g : G} (hx : Enc.cells x = [g]) (h1 : Enc.sz α = 1) : (encs l).set (0 + i * 1) g = encs (l.set i x) := by
 rw [Nat.zero_add, Nat.mul_one]
 unfold encs
 induction l generalizing i with
 | nil => rfl
 | cons y r ih =>
  obtain ⟨z, hz⟩ := List.length_eq_one_iff.1 ((Enc.len y).trans h1)
  cases i with
  | zero => simp [hz, hx]
  | succ i => simp only [List.set_cons_succ, List.flatMap_cons, hz, List.cons_append, List.nil_append, ih]
end
end Go.AM
/-
 AM, part P: the steps over encoded data.
-/
namespace Go.AM
section
variable {α : Type} [Enc α]
variable {P : Program} {N : Nat} {cx : Cx} {s : St} {W : List Nat}
variable {dst : Option Tmp} {ty : TypeId} {pos : String} {after : Array Edge} {guard : Option (Nat × Bool)}
theorem at_cell {l : List α} {i : Int} {x : α} (h : idx l i = some x) {j : Nat} {g : G} (hg : (Enc.cells x)[j]? = some g) : (encs l)[i.toNat * Enc.sz α + j]? = some g := by
 have hj : j < Enc.sz α := by have := (List.getElem?_eq_some_iff.1 hg).1; rw [Enc.len] at this; exact this
 rw [encs_get (idx_spec h).2.2 hj]; exact hg
theorem YT.elt {l : List α} {i : Int} {x : α} {t : TypeId} {xo : Operand} {g : G} (hx : ev s xo = some (.ptr ((encs l).drop (i.toNat * Enc.sz α)))) (h : idx l i = some x) (hg : (Enc.cells x)[0]? = some g) (hag : ∀ w, (isAgg t).run P w = .ok false w) :
  Yield P W s ⟨dst, .load t xo, ty, pos, after, guard⟩ g := YL.ptr hx (by rw [List.getElem?_drop]; exact at_cell h hg) hag
theorem encs_sub {l : List α} {i : Int} {x : α} (h : idx l i = some x) : ((encs l).drop (i.toNat * Enc.sz α)).take (Enc.sz α) = Enc.cells x := by
  apply List.ext_getElem?
  intro j
  rw [List.getElem?_take]
  split
  · rename_i hj
    exact encs_drop_get (idx_spec h).2.2 hj
  · rename_i hj
    rw [List.getElem?_eq_none]
    rw [Enc.len]; omega
theorem YT.agg {l : List α} {i : Int} {x : α} {t : TypeId} {xo : Operand} (hx : ev s xo = some (.ptr ((encs l).drop (i.toNat * Enc.sz α)))) (h : idx l i = some x) (hag : ∀ w, (isAgg t).run P w = .ok true w)
  (hsz : ∀ w, (sizeOf t).run P w = .ok (Enc.sz α) w) : Yield P W s ⟨dst, .load t xo, ty, pos, after, guard⟩ (.agg (Enc.cells x)) := by
 have := YL.ptrAgg (P := P) (W := W) (dst := dst) (ty := ty) (pos := pos) (after := after) (guard := guard) hx (sz := Enc.sz α) (by
  rw [List.length_drop, encs_length]
  have h1 := (List.getElem?_eq_some_iff.1 (idx_spec h).2.2).1
  have : (i.toNat + 1) * Enc.sz α ≤ l.length * Enc.sz α := Nat.mul_le_mul_right _ h1
  rw [Nat.add_mul] at this
  omega) hag hsz
 rw [encs_sub h] at this
 exact this
theorem YT.own {l : List α} {i : Int} {x : α} {t h : Nat} {k : Blk} {xo : Operand} {g g' : G} (hx : ev s xo = some (.loc h (0 + i.toNat * Enc.sz α))) (hk : sget s.st h = some k) (hc : k.cells = encs l) (hi : idx l i = some x) (hg : (Enc.cells x)[0]? = some g)
  (hag : ∀ w, (isAgg t).run P w = .ok false w) (hW : W.contains h = false) (hout : k.out g = g') (hlp : k.lp = none := by rfl) : Yield P W s ⟨dst, .load t xo, ty, pos, after, guard⟩ g' :=
 YL.load hx hk (by rw [hc, Nat.zero_add]; exact at_cell hi hg) hag hW hout hlp
variable {d : Nat}
theorem ET.set {l : List α} {i : Int} {x : α} {t h : Nat} {k : Blk} {xo yo : Operand} {g g' : G} {f : Bool} (hx : ev s xo = some (.loc h (0 + i.toNat * 1))) (hy : ev s yo = some g) (hk : sget s.st h = some k) (hc : k.cells = encs l) (hp : k.pure = true)
  (hi : immG g = some (g', f)) (hone : g.one = true) (he : Enc.cells x = [g']) (h1 : Enc.sz α = 1) (h0 : 0 ≤ i) (hn : i < (l.length : Int)) (hsz : ∀ w, (sizeOf t).run P w = .ok 1 w) (hW : W.contains h = true) (hlp : k.lp = none := by rfl) :
  Effect P W s ⟨none, .store t xo yo, ty, pos, after, guard⟩ (· = { fr := s.fr, st := sset s.st h { k with fresh := k.fresh && f, cells := encs (l.set i.toNat x) }, df := s.df }) := by
 have := EF.storeP (P := P) (W := W) (ty := ty) (pos := pos) (after := after) (guard := guard) hx hy hk hp hi hone hsz (by rw [hc, encs_length, h1]; omega) hW hlp
 rw [hc, encs_set he h1] at this
 exact this
theorem ET.append {l m : List α} {t e : TypeId} {xo yo : Operand} {h bt : Nat} {k : Blk} {gy : G} {f : Bool} {z : Value} (hx : ev s xo = some (.osl h (Enc.sz α) 0 l.length)) (hy : ev s yo = some gy) (hk : sget s.st h = some k) (hc : k.cells = encs l)
  (hp : k.pure = true) (hety : k.ety = e) (hksz : k.sz = Enc.sz α) (hsrc : gsrc s.st (Enc.sz α) gy = some (encs m, m.length, f)) (hap : gy.hasH h = false) (ht : P.underlying t = some (.slice e))
  (hi : (P.info? e).map (fun i => (i.zero, i.size, i.bytes)) = some (some z, Enc.sz α, bt)) (hzs : z.cells.size = Enc.sz α) (hmax : l.length + m.length ≤ maxLen) (hbound : (l.length + m.length) * bt ≤ 140737488355328) (hW : W.contains h = true) (hlp : k.lp = none := by rfl) (hpn : pinned h = false := by rfl) (hdf : dfNo h s.df = true := by rfl) :
  Effect P W s ⟨some d, .call ⟨.builtin .append, #[xo, yo], #[t, t]⟩, ty, pos, after, guard⟩
   (· = { fr := (d, .osl h (Enc.sz α) 0 (l ++ m).length) :: killFr h s.fr, st := (h, { k with fresh := k.fresh && f, cells := encs (l ++ m) }) :: killSt h s.st, df := s.df }) := by
 have := EF.append (P := P) (d := d) (W := W) (ty := ty) (pos := pos) (after := after) (guard := guard) hx hy hk hp hety hksz (by rw [hc, encs_length]) hsrc (by rw [encs_length]) (fun g hg => encs_one m g hg) hap ht hi hzs Enc.pos hmax hbound hW hlp hpn hdf
 rw [encs_append, List.length_append, ← hc]
 exact this
theorem fz_vec {st st' : List (Nat × Blk)} {h : Nat} {k : Blk} {l : List α} (hk : sget st h = some k) (hn : sget st' h = none) (hp : k.pure = true) (hm : k.mine = true) (hf : k.fresh = true) (hc : k.cells = encs l) (hlp : k.lp = none := by rfl) :
  fzG st st' (.osl h (Enc.sz α) 0 l.length) = some (.fr (.sl l.length (encs l))) := by
 simp only [fzG, hn, hk, hp, hm, hf, hc, hlp, List.drop_zero, encs_take_full, cond_true]
end
end Go.AM
/-
 AM, part Q: a slot whose value is known; two loads of which either may come up first.
-/
namespace Go.AM
section
variable {P : Program} {N : Nat} {cx : Cx} {Q : Exit → St → Prop} {s : St} {ops : Array Oper} {rest : List Oper}
theorem Rel.dup {μ : Mu} {a : Act} {w : World} {t : Nat} {g : G} (hr : Rel N cx μ s a w) (hg : get s.fr t = some g) : Rel N cx μ { fr := (t, g) :: s.fr, st := s.st, df := s.df } a w :=
  { st := hr.st, nd := hr.nd, sz := hr.sz, fr := fun t' g' h => by
      simp only [get] at h
      cases e : t.beq t' with
      | true =>
        rw [e, cond_true] at h
        cases h
        have e := Nat.eq_of_beq_eq_true e
        subst e
        exact hr.fr _ _ hg
      | false =>
        rw [e, cond_false] at h
        exact hr.fr _ _ h }
theorem Rel.resl {μ : Mu} {a : Act} {w : World} {t h sz off n m : Nat} (hr : Rel N cx μ s a w) (hg : get s.fr t = some (.osl h sz off n)) (hn : n = m) : Rel N cx μ { fr := (t, .osl h sz off m) :: s.fr, st := s.st, df := s.df } a w := by
 subst hn; exact hr.dup hg
theorem GL.resl (t : Nat) {h sz off n m : Nat} (hg : get s.fr t = some (.osl h sz off n)) (hn : n = m) (k : GL P N cx ops Q rest { fr := (t, .osl h sz off m) :: s.fr, st := s.st, df := s.df }) : GL P N cx ops Q rest s := fun μ a w hr => k μ a w (hr.resl hg hn)
theorem GH2.resl {W : List Nat} {fuel : Nat} {listed : Array Bool} (t : Nat) {h sz off n m : Nat} (hg : get s.fr t = some (.osl h sz off n)) (hn : n = m) (k : GH2 P N cx ops Q W fuel listed { fr := (t, .osl h sz off m) :: s.fr, st := s.st, df := s.df }) : GH2 P N cx ops Q W fuel listed s :=
 fun ws Wb μ a w hr => k ws Wb μ a w (hr.resl hg hn)
theorem GL.lit (t : Nat) {b v : Bool} (hg : get s.fr t = some (.val (.bool b))) (hb : b = v) (h : GL P N cx ops Q rest { fr := (t, .val (.bool v)) :: s.fr, st := s.st, df := s.df }) : GL P N cx ops Q rest s := fun μ a w hr => by
 subst hb
 exact h μ a w (hr.dup hg)
theorem GW.lit {c : Code} (t : Nat) {b v : Bool} (hg : get s.fr t = some (.val (.bool b))) (hb : b = v) (h : GW P N cx c Q { fr := (t, .val (.bool v)) :: s.fr, st := s.st, df := s.df }) : GW P N cx c Q s := fun μ a w hr => by
 subst hb
 exact h μ a w (hr.dup hg)
theorem GH1.lit {W : List Nat} {fuel : Nat} {listed : Array Bool} (t : Nat) {b v : Bool} (hg : get s.fr t = some (.val (.bool b))) (hb : b = v) (h : GH1 P N cx ops Q W fuel listed { fr := (t, .val (.bool v)) :: s.fr, st := s.st, df := s.df }) : GH1 P N cx ops Q W fuel listed s := fun μ a w hr => by
 subst hb
 exact h μ a w (hr.dup hg)
theorem GH2.lit {W : List Nat} {fuel : Nat} {listed : Array Bool} (t : Nat) {b v : Bool} (hg : get s.fr t = some (.val (.bool b))) (hb : b = v) (h : GH2 P N cx ops Q W fuel listed { fr := (t, .val (.bool v)) :: s.fr, st := s.st, df := s.df }) : GH2 P N cx ops Q W fuel listed s := fun ws Wb μ a w hr => by
 subst hb
 exact h ws Wb μ a w (hr.dup hg)
end
section
variable {α : Type} [Enc α]
variable {P : Program} {N : Nat} {cx : Cx} {s : St} {W : List Nat}
variable {dst : Option Tmp} {ty : TypeId} {pos : String} {after : Array Edge} {guard : Option (Nat × Bool)}
end
end Go.AM
/-
 AM, part R: struct values put together; an empty slice written out; operations that were skipped.
-/
namespace Go.AM
section
variable {P : Program} {N : Nat} {cx : Cx} {Q : Exit → St → Prop} {s : St} {ops : Array Oper} {rest : List Oper}
theorem Rel.undef {μ : Mu} {a : Act} {w : World} {d : Nat} (h : Rel N cx μ s a w) (hN : d < N) : Rel N cx μ (s.put d (.tup [])) (a.put (some d) Go.undef) w :=
 h.put hN (.tup [] [] rfl fun j g v hg => by cases hg)
theorem GL.nou {d : Nat} {op : Op} {ty : TypeId} {pos : String} {after : Array Edge} {guard : Option (Nat × Bool)} (hw : wants ops s guard = some false) (hN : Nat.blt d N = true) (h : GL P N cx ops Q rest (s.put d (.tup []))) :
  GL P N cx ops Q (⟨some d, op, ty, pos, after, guard⟩ :: rest) s := by
 intro μ a w hr
 unfold wpListIn
 rw [if_neg (by rw [wants_spec hr hw]; simp)]
 refine ⟨fun _ _ => trivial, ?_⟩
 exact h μ _ w (hr.undef (by simpa [Nat.blt_eq] using hN))
theorem GH1.passu {W : List Nat} {fuel : Nat} {listed : Array Bool} (i : Nat) {o : Oper} {d : Nat} (hi : ops[i]? = some o) (hs : Region.noSelect ops = true) (hf : Region.free .any ops listed i = true)
  (hr : (Region.ready .any ops listed).contains i = true) (hw : wants ops s o.guard = some false) (hd : o.dst = some d) (hN : d < N)
  (h : GH1 P N cx ops Q W fuel (listed.setIfInBounds i true) (s.put d (.tup []))) : GH1 P N cx ops Q W (fuel + 1) listed s := by
 intro μ a w hrel
 refine wpAnyH_take (v := undef) hi hs hf hr (fun c a' w' h => lift_panic h) (.inr ⟨wants_spec hrel hw, rfl⟩) ⟨Nat.le_refl _, fun _ _ _ => rfl⟩ ?_
 rw [hd]
 exact h μ _ w (hrel.undef hN)
theorem GH2.passu {W : List Nat} {fuel : Nat} {listed : Array Bool} (i : Nat) {o : Oper} {d : Nat} (hi : ops[i]? = some o) (hs : Region.noSelect ops = true) (hf : Region.free .any ops listed i = true)
  (hr : (Region.ready .any ops listed).contains i = true) (hw : wants ops s o.guard = some false) (hd : o.dst = some d) (hN : d < N)
  (h : GH2 P N cx ops Q W fuel (listed.setIfInBounds i true) (s.put d (.tup []))) : GH2 P N cx ops Q W (fuel + 1) listed s := by
 intro ws Wb μ a w hrel hS hW
 refine wpAnyH_take (v := undef) hi hs hf hr (fun c a' w' h => lift_panic h) (.inr ⟨wants_spec hrel hw, rfl⟩) hS ?_
 rw [hd]
 exact h ws Wb μ _ w (hrel.undef hN) hS hW
end
section
variable {P : Program} {N : Nat} {cx : Cx} {s : St} {W : List Nat} {d : Nat}
variable {dst : Option Tmp} {ty : TypeId} {pos : String} {after : Array Edge} {guard : Option (Nat × Bool)}
theorem EF.buildSlice0 {t e : TypeId} {sz : Nat} {z : Value} {bt : Nat} (hd : Nat) (ht : P.underlying t = some (.slice e))
  (hi : (P.info? e).map (fun i => (i.zero, i.size, i.bytes)) = some (some z, sz, bt)) (hfr : fresh s hd = true) :
  Effect P W s ⟨some d, .buildSlice t 0 #[], ty, pos, after, guard⟩ (· = { fr := (d, .osl hd sz 0 0) :: s.fr, st := (hd, ⟨e, true, true, true, sz, [], none⟩) :: s.st, df := s.df }) := by
 refine Effect.of (s1 := { fr := s.fr, st := (hd, ⟨e, true, true, true, sz, [], none⟩) :: s.st, df := s.df }) (g := .osl hd sz 0 0) rfl (fun _ h => by cases h) ?_
 intro N cx μ a w hr
 obtain ⟨i, hi1, hi2⟩ := Option.map_eq_some_iff.1 hi
 simp only [Prod.mk.injEq] at hi2
 obtain ⟨hz, hs1, hb1⟩ := hi2
 obtain ⟨μ', w', rfl, h1, h2, h3⟩ := hr.allocNew (k := ⟨e, true, true, true, sz, [], none⟩) (cs := #[]) hfr rfl (by simp) (fun _ => by simp) (fun j g' hg' => by simp at hg') (fun _ g' hg' => by simp at hg') W
 refine ⟨_, μ', _, ?_, h1, .osl hd sz 0 0 _ _ 0 h2 (Nat.le_refl _) (by simp), h3⟩
 have hrun : (Instr.buildSlice t 0 #[]).run P w = .ok (.slice (some ⟨w.heap.size, 0, none⟩) 0 0) (w.alloc (.cells #[] e)) := by
  have e0 : (Array.range 0).map (fun _ => (default : Value)) = #[] := by apply Array.eq_empty_of_size_eq_zero; simp
  simp [Instr.buildSlice, run_underlying ht, sizeOf, typeInfo, hi1, Instr.fill, newRow]
  rw [e0]
 simp [execOp, hrun]
def setAt {α : Type} (cs : List α) (off : Nat) : List α → List α
 | [] => cs
 | x :: r => setAt (cs.set off x) (off + 1) r
def gfill (place : Nat → Option (Nat × Nat)) (cells : List G) : List (Nat × G) → Option (List G)
 | [] => some cells
 | (i, g) :: r => match place i with
  | some (off, size) => match gok g && (Nat.beq (gcells g).length size && Nat.ble (off + size) cells.length) with
   | true => gfill place (setAt cells off (gcells g)) r
   | false => none
  | none => none
def evp (s : St) : List (Nat × Operand) → Option (List (Nat × G))
 | [] => some []
 | (i, x) :: r => match ev s x, evp s r with
  | some g, some gs => some ((i, g) :: gs)
  | _, _ => none
def RepL (O : Nat → Prop) (base : Nat) (w : World) (μ : Mu) (gs : List G) (vs : List Value) : Prop := vs.length = gs.length ∧ ∀ (j : Nat) (g : G) (v : Value), gs[j]? = some g → vs[j]? = some v → RepV O base w μ g v
theorem RepL.set {O : Nat → Prop} {base : Nat} {w : World} {μ : Mu} {gs : List G} {vs : List Value} (h : RepL O base w μ gs vs) (off : Nat) {g : G} {v : Value} (hv : RepV O base w μ g v) : RepL O base w μ (gs.set off g) (vs.set off v) := by
  refine ⟨by simp [h.1], fun j g' v' h1 h2 => ?_⟩
  rw [List.getElem?_set] at h1 h2
  by_cases e : off = j
  · subst e
    rw [if_pos rfl] at h1 h2
    split at h1
    · split at h2
      · cases h1; cases h2; exact hv
      · cases h2
    · cases h1
  · rw [if_neg e] at h1 h2
    exact h.2 j g' v' h1 h2
theorem RepL.setAt {O : Nat → Prop} {base : Nat} {w : World} {μ : Mu} : ∀ (gp : List G) (vp : List Value) (off : Nat) {gs : List G} {vs : List Value}, RepL O base w μ gs vs → RepL O base w μ gp vp → RepL O base w μ (AM.setAt gs off gp) (AM.setAt vs off vp)
 | [], [], _, _, _, h, _ => h
 | [], _ :: _, _, _, _, _, h => by cases h.1
 | _ :: _, [], _, _, _, _, h => by cases h.1
 | g :: gp, v :: vp, off, _, _, h, hp => RepL.setAt gp vp (off + 1) (h.set off (hp.2 0 g v rfl rfl)) ⟨by have := hp.1; simpa using this, fun j g' v' h1 h2 => hp.2 (j + 1) g' v' h1 h2⟩
theorem foldl_setAt (off : Nat) : ∀ (l : List Value) (k : Nat) (cs : Array Value), ((l.zipIdx k).foldl (fun cs (x : Value × Nat) => cs.setIfInBounds (off + x.2) x.1) cs).toList = setAt cs.toList (off + k) l
 | [], _, _ => rfl
 | x :: r, k, cs => by
  simp only [List.zipIdx_cons, List.foldl_cons, setAt]
  rw [foldl_setAt off r (k + 1)]
  simp [Nat.add_assoc]
theorem gfill_spec {O : Nat → Prop} {base : Nat} {w : World} {μ : Mu} {place : Nat → Option (Nat × Nat)} : ∀ (gp : List (Nat × G)) (vp : List (Nat × Value)) (gs : List G) (vs : Array Value) (out : List G),
  gfill place gs gp = some out → RepL O base w μ gs vs.toList → vp.length = gp.length → (∀ (j : Nat) (x : Nat × G) (y : Nat × Value), gp[j]? = some x → vp[j]? = some y → x.1 = y.1 ∧ RepV O base w μ x.2 y.2) →
  ∃ cs, Instr.fill place vs vp = some cs ∧ RepL O base w μ out cs.toList
 | [], [], gs, vs, out, h, hr, _, _ => by cases h; exact ⟨vs, rfl, hr⟩
 | [], _ :: _, _, _, _, _, _, hl, _ => by cases hl
 | _ :: _, [], _, _, _, _, _, hl, _ => by cases hl
 | (i, g) :: gp, (i', v) :: vp, gs, vs, out, h, hr, hl, hp => by
  obtain ⟨e, hv⟩ := hp 0 _ _ rfl rfl
  simp only at e hv
  subst e
  simp only [gfill] at h
  cases hpl : place i with
  | none => rw [hpl] at h; cases h
  | some os =>
   obtain ⟨off, size⟩ := os
   rw [hpl] at h
   simp only at h
   cases hc : gok g && (Nat.beq (gcells g).length size && Nat.ble (off + size) gs.length) with
   | false => rw [hc] at h; cases h
   | true =>
    rw [hc] at h
    simp only [Bool.and_eq_true] at hc
    obtain ⟨c1, c2, c3⟩ := hc
    have c2 := Nat.eq_of_beq_eq_true c2
    have c3 := Nat.le_of_ble_eq_true c3
    obtain ⟨d1, d2⟩ := hv.cells c1
    have hrl : RepL O base w μ (gcells g) v.cells.toList := by
     refine ⟨by rw [Array.length_toList]; exact d1, fun j g' v' h1 h2 => ?_⟩
     obtain ⟨u, hu, hru⟩ := d2 j g' h1
     rw [Array.getElem?_toList, hu] at h2
     cases h2
     exact hru
    have hrs := RepL.setAt _ _ off hr hrl
    have hvl : vs.size = gs.length := by rw [← hr.1, Array.length_toList]
    have hstep : Instr.fill place vs ((i, v) :: vp) = Instr.fill place (v.cells.zipIdx.foldl (fun cs (x : Value × Nat) => cs.setIfInBounds (off + x.2) x.1) vs) vp := by
     simp only [Instr.fill, hpl]
     rw [if_neg (by simp; omega)]
    rw [hstep]
    have hfold : (v.cells.zipIdx.foldl (fun cs (x : Value × Nat) => cs.setIfInBounds (off + x.2) x.1) vs).toList = AM.setAt vs.toList off v.cells.toList := by
     rw [← Array.foldl_toList, Array.toList_zipIdx]
     exact foldl_setAt off v.cells.toList 0 vs
    refine gfill_spec gp vp _ _ out h (by rw [hfold]; exact hrs) (by simpa using hl) fun j x y h1 h2 => hp (j + 1) x y h1 h2
theorem evp_spec {μ : Mu} {a : Act} {w : World} (h : Rel N cx μ s a w) : ∀ (l : List (Nat × Operand)) (gp : List (Nat × G)), evp s l = some gp →
  (l.map fun x => (x.1, a.eval x.2)).length = gp.length ∧ ∀ (j : Nat) (x : Nat × G) (y : Nat × Value), gp[j]? = some x → (l.map fun x => (x.1, a.eval x.2))[j]? = some y → x.1 = y.1 ∧ RepV (cx.O s.st μ) cx.base w μ x.2 y.2
 | [], gp, he => by cases he; exact ⟨rfl, fun j x y h => by cases h⟩
 | (i, x) :: r, gp, he => by
  simp only [evp] at he
  cases hx : AM.ev s x with
  | none => rw [hx] at he; cases he
  | some g =>
   rw [hx] at he
   cases hr : evp s r with
   | none => rw [hr] at he; cases he
   | some gs =>
    rw [hr] at he
    cases he
    obtain ⟨h1, h2⟩ := evp_spec h r gs hr
    refine ⟨by simpa using h1, fun j x' y h3 h4 => ?_⟩
    cases j with
    | zero => cases h3; cases h4; exact ⟨rfl, h.ev hx⟩
    | succ j => exact h2 j x' y h3 h4
theorem PY.build {t : TypeId} {parts : Array (Nat × Operand)} {fs : Array Field} {z : Value} {places : List (Nat × Nat)} {gp : List (Nat × G)} {out : List G} (ht : P.underlying t = some (.struct fs)) (hz : (P.info? t).map (·.zero) = some (some z))
    (hp : fs.toList.mapM (fun f => (P.info? f.type).map fun i => (f.offset, i.size)) = some places) (he : evp s parts.toList = some gp) (hf : gfill (places[·]?) (z.cells.toList.map .val) gp = some out) :
    PY P s ⟨dst, .build t parts, ty, pos, after, guard⟩ (.agg out) := fun N cx μ a w hr => by
  obtain ⟨it, h1, h2⟩ := Option.map_eq_some_iff.1 hz
  obtain ⟨h3, h4⟩ := evp_spec hr _ _ he
  obtain ⟨cs, h5, h6⟩ := gfill_spec (O := cx.O s.st μ) (base := cx.base) (w := w) (μ := μ) gp _ _ z.cells out hf ⟨by simp, fun j g v hg hv => by
    rw [List.getElem?_map, hv] at hg
    cases hg
    exact .imm (.val _)⟩ h3 h4
  have hb : ∀ w', (Instr.build t (parts.map fun (x : Nat × Operand) => (x.1, a.eval x.2))).run P w' = .ok (.agg cs) w' := fun w' => by
    refine Go.run_build w' t _ cs ?_
    unfold Program.built
    simp only [h1, ht, h2, hp]
    rw [Array.toList_map]
    have e : (fun x : Nat => places.toArray[x]?) = (fun x : Nat => places[x]?) := by funext x; simp
    rw [e]
    exact h5
  refine ⟨.agg cs, ?_, fun w' => ?_⟩
  · have := RepV.agg (O := cx.O s.st μ) (base := cx.base) (w := w) (μ := μ) out cs.toList h6.1 h6.2
    simpa using this
  · simp [execOp, hb]
theorem run_equal_bool {t : TypeId} (ht : P.underlying t = some .bool) (a b : Bool) (w : World) : (Op.equal t (.bool a) (.bool b)).run P w = .ok (a == b) w := by
 have e : ∃ n, Op.maxDepth = n + 1 := ⟨_, rfl⟩
 obtain ⟨n, e⟩ := e
 unfold Op.equal
 rw [e]
 simp [Op.equalIn, run_underlying ht]
theorem PY.eqB {t t' : TypeId} {x y : Operand} {a b : Bool} (hx : ev s x = some (.val (.bool a))) (hy : ev s y = some (.val (.bool b))) (ht : P.underlying t = some .bool) :
  PY P s ⟨dst, .binOp .eql t x y t', ty, pos, after, guard⟩ (.val (.bool (a == b))) := fun _ _ _ _ _ hrel => by
 refine ⟨_, .imm (.val _), fun w' => ?_⟩
 simp [execOp, hrel.val hx, hrel.val hy, eqGuard, binOp, run_equal_bool ht]
theorem PY.neB {t t' : TypeId} {x y : Operand} {a b : Bool} (hx : ev s x = some (.val (.bool a))) (hy : ev s y = some (.val (.bool b))) (ht : P.underlying t = some .bool) :
  PY P s ⟨dst, .binOp .neq t x y t', ty, pos, after, guard⟩ (.val (.bool (!(a == b)))) := fun _ _ _ _ _ hrel => by
 refine ⟨_, .imm (.val _), fun w' => ?_⟩
 simp [execOp, hrel.val hx, hrel.val hy, eqGuard, binOp, run_equal_bool ht]
end
end Go.AM
/-
 AM, part S: is a slice nil?
-/
namespace Go.AM
noncomputable def nilF {ρ : Type} (n : Int) (m1 m2 : Option ρ) : Option ρ := open Classical in if n = 0 then (if m1 = m2 then m1 else none) else m2
theorem nilF_spec {ρ : Type} {n : Int} {m1 m2 : Option ρ} {r : ρ} (h : nilF n m1 m2 = some r) : (n = 0 → m1 = some r) ∧ m2 = some r := by
  unfold nilF at h
  split at h
  · split at h
    · rename_i e; exact ⟨fun _ => h, e ▸ h⟩
    · cases h
  · exact ⟨fun e => absurd e (by assumption), h⟩
section
variable {P : Program} {N : Nat} {cx : Cx} {Q : Exit → St → Prop} {s : St} {ops : Array Oper} {rest : List Oper}
theorem RepV.sliceLen {O : Nat → Prop} {base : Nat} {w : World} {μ : Mu} {g : G} {v : Value} {n : Int} (h : RepV O base w μ g v) (hn : lenG g = some n) : ∃ b m c, v = .slice b m c ∧ (m : Int) = n ∧ (b = none → n = 0) := by
 have sl : ∀ (O : Nat → Prop) (n : Nat) (cells : List G) (v : Value), RepI O w (.sl n cells) v → ∃ b m c, v = .slice b m c ∧ m = n ∧ (b = none → n = 0) := by
  intro O n cells v h
  cases h with
  | nil => exact ⟨none, 0, 0, rfl, rfl, fun _ => rfl⟩
  | emp a cap => exact ⟨some a, 0, cap, rfl, rfl, fun h => rfl⟩
  | sl _ _ b off cap => exact ⟨_, n, cap, rfl, rfl, fun h => by cases h⟩
 cases g with
 | sl n' cells =>
  cases hn
  cases h with
  | imm h => obtain ⟨b, m, c, e1, e2, e3⟩ := sl _ _ _ _ h; exact ⟨b, m, c, e1, by rw [e2], fun h => by rw [e3 h]; rfl⟩
 | fr g =>
  cases h with
  | imm h => cases h
  | fr h =>
   cases g with
   | sl n' cells => cases hn; obtain ⟨b, m, c, e1, e2, e3⟩ := sl _ _ _ _ h; exact ⟨b, m, c, e1, by rw [e2], fun h => by rw [e3 h]; rfl⟩
   | _ => cases hn
 | osl h' sz off n' =>
  cases hn
  cases h with
  | imm h => cases h
  | onil => exact ⟨none, 0, 0, rfl, rfl, fun _ => rfl⟩
  | osl _ _ _ _ b m cap => exact ⟨_, n', cap, rfl, rfl, fun h => by cases h⟩
  | ozero _ _ off0 b m _ _ => exact ⟨_, 0, 0, rfl, rfl, fun _ => rfl⟩
 | val v0 =>
  cases h with
  | imm h =>
   cases h
   cases v with
   | slice b m c =>
    cases b with
    | none => cases m with
     | zero => cases c with
      | zero => cases hn; exact ⟨none, 0, 0, rfl, rfl, fun _ => rfl⟩
      | succ c => cases hn
     | succ m => cases hn
    | some b => cases hn
   | _ => cases hn
 | _ => cases hn
theorem run_eqnil {t e : TypeId} (ht : P.underlying t = some (.slice e)) (xo yo : Operand) (b : Option Addr) (m c : Nat) (w : World) :
  (do eqGuard .eql t xo yo (.slice b m c) (.slice none 0 0); binOp .eql t (.slice b m c) (.slice none 0 0) : Sem Value).run P w = .ok (.bool b.isNone) w := by
 have h := Lib.run_eql_slice_nil (P := P) w t e b m c 0 0 ht
 have hg : (eqGuard .eql t xo yo (.slice b m c) (.slice none 0 0)).run P w = .ok () w := by simp [eqGuard]
 simp only [Sem.run_bind, hg, Result.andThen_ok, h]
theorem run_nenil {t e : TypeId} (ht : P.underlying t = some (.slice e)) (xo yo : Operand) (b : Option Addr) (m c : Nat) (w : World) :
  (do eqGuard .neq t xo yo (.slice b m c) (.slice none 0 0); binOp .neq t (.slice b m c) (.slice none 0 0) : Sem Value).run P w = .ok (.bool (!b.isNone)) w := by
 have h := run_neq_slice_nil_any (P := P) w t e b m c 0 0 ht
 have hg : (eqGuard .neq t xo yo (.slice b m c) (.slice none 0 0)).run P w = .ok () w := by simp [eqGuard]
 simp only [Sem.run_bind, hg, Result.andThen_ok, h]
end
end Go.AM
/-
 AM, part T: a block said in other words; slices given out of hand; a nil slice in a box taken in hand; lists written out.
-/
namespace Go.AM
section
variable {P : Program} {N : Nat} {cx : Cx} {Q : Exit → St → Prop} {s : St} {ops : Array Oper} {rest : List Oper}
theorem Rel.restate {μ : Mu} {a : Act} {w : World} (h : Rel N cx μ s a w) {hh : Nat} {k k' : Blk} (hk : sget s.st hh = some k) (he : k'.ety = k.ety) (hmine : k'.mine = k.mine) (hsz : k'.sz = k.sz) (hl : k'.cells.length ≤ k.cells.length) (hlp : k.lp = none) (hlp' : k'.lp = none)
    (hc : ∀ (j : Nat) (g' : G), k'.cells[j]? = some g' → ∃ g, k.cells[j]? = some g ∧ ∀ v, RepC (cx.O s.st μ) cx.base w μ k g v → RepC (cx.O s.st μ) cx.base w μ k' g' v) :
    Rel N cx μ { fr := s.fr, st := sset s.st hh k', df := s.df } a w := by
  have hb := h.st.blk hh k hk
  cases hm : μ hh with
  | some bm =>
    obtain ⟨b, m⟩ := bm
    rw [hm] at hb
    obtain ⟨cs, h1, h2, h3, h4, h5, h6⟩ := hb.cells hlp
    exact (h.write hk hm (by rw [he]; exact h1) h2 rfl (fun _ _ => rfl) rfl rfl rfl (fun e => hmine ▸ e) (Nat.le_trans hl h3) (by rw [hsz]; exact h5) (fun j g' hg' => by
      obtain ⟨g, hg, hr⟩ := hc j g' hg'
      obtain ⟨v, hv, hrv⟩ := h6 j g hg
      exact ⟨v, hv, hr v hrv⟩) [hh] (by simp) hlp').1
  | none =>
    rw [hm] at hb
    obtain ⟨hb, _⟩ := hb
    have hb' : k'.cells = [] := List.eq_nil_of_length_eq_zero (by rw [hb] at hl; simpa using hl)
    have hOO : ∀ b, cx.O (sset s.st hh k') μ b ↔ cx.O s.st μ b := fun b => or_congr Iff.rfl (Own.sset hk)
    have hO : ∀ b, b < w.heap.size → ¬ cx.O s.st μ b → ¬ cx.O (sset s.st hh k') μ b := fun b _ hn ho => hn ((hOO b).1 ho)
    have f : ∀ x k1, sget (sset s.st hh k') x = some k1 → ∃ k1, sget s.st x = some k1 := fun x k1 h1 => by
      rcases sget_sset_iff hk h1 with ⟨rfl, rfl⟩ | ⟨_, h1⟩
      · exact ⟨k, hk⟩
      · exact ⟨_, h1⟩
    refine { st := { blk := ?_, inj := ?_, out := ?_, pin := ?_, xlt := h.st.xlt, hb := h.st.hb, os := h.st.os, tape := h.st.tape, output := h.st.output, keep := h.st.keep }, nd := h.nd.mono (Kept.refl _ _) hO, sz := h.sz, fr := fun t g hg => ?_ }
    · intro x k1 h1
      rcases sget_sset_iff hk h1 with ⟨rfl, rfl⟩ | ⟨_, h1⟩
      · rw [hm]; exact ⟨hb', hlp'⟩
      · exact (h.st.blk x k1 h1).mono (fun _ _ _ => rfl) (Kept.refl _ _) hO
    · intro x x' k1 k2 b1 m1 m2 h1 h2 h3 h4
      obtain ⟨k1', h1'⟩ := f x k1 h1
      obtain ⟨k2', h2'⟩ := f x' k2 h2
      exact h.st.inj x x' k1' k2' b1 m1 m2 h1' h2' h3 h4
    · intro x k1 b1 m1 h1 h2
      obtain ⟨k1', h1'⟩ := f x k1 h1
      exact h.st.out x k1' b1 m1 h1' h2
    · intro x k1 h1 h2
      obtain ⟨k1', h1'⟩ := f x k1 h1
      exact h.st.pin x k1' h1' h2
    · obtain ⟨v, hv, hr⟩ := h.fr t g hg
      exact ⟨v, hv, hr.mono (Kept.refl _ _) hO (Nat.le_refl _)⟩
theorem Rel.newNil {μ : Mu} {a : Act} {w : World} (h : Rel N cx μ s a w) (hd : Nat) (k : Blk) (hf : fresh s hd = true) (hk : k.cells = []) (hlp : k.lp = none) : Rel N cx (upd μ hd none) { fr := s.fr, st := (hd, k) :: s.st, df := s.df } a w := by
 obtain ⟨h1, h2, h3, h5, h6⟩ := fresh_spec hf
 obtain ⟨h4, hO⟩ := h.st.newNil h1 h3 (not_pinned h6) hk hlp
 refine { st := h4, nd := (h.nd.mono (Kept.refl _ _) (fun b _ => hO b)).remap (fun g hg y hy => upd_other fun e => by subst e; rw [dfNo_mem h5 hg] at hy; cases hy), sz := h.sz, fr := fun t' g hg' => ?_ }
 obtain ⟨v, hv, hr⟩ := h.fr t' g hg'
 refine ⟨v, hv, (hr.mono (Kept.refl _ _) (fun b _ => hO b) (Nat.le_refl _)).remap fun y hy => upd_other ?_⟩
 intro e
 subst e
 rw [frNo_get h2 hg'] at hy
 cases hy
theorem Rel.adoptC {μ : Mu} {a : Act} {w : World} (h : Rel N cx μ s a w) (hh j hd : Nat) (e : TypeId) (sz : Nat) {k : Blk} (hk : sget s.st hh = some k) (hp : k.pure = false) (hj : k.cells[j]? = some (.val (.slice none 0 0))) (hf : fresh s hd = true) (hlp : k.lp = none) :
    ∃ μ', Rel N cx μ' { fr := s.fr, st := sset ((hd, ⟨e, true, true, true, sz, [], none⟩) :: s.st) hh { k with cells := k.cells.set j (.osl hd sz 0 0) }, df := s.df } a w := by
  have h1 := h.newNil hd ⟨e, true, true, true, sz, [], none⟩ hf rfl rfl
  have hne : hh ≠ hd := fun e => by
    subst e
    obtain ⟨h2, _⟩ := fresh_spec hf
    rw [hk] at h2; cases h2
  have hk2 : sget ((hd, ⟨e, true, true, true, sz, [], none⟩) :: s.st) hh = some k := by rw [sget_cons_other _ _ hne]; exact hk
  refine ⟨_, h1.restate (s := { fr := s.fr, st := (hd, ⟨e, true, true, true, sz, [], none⟩) :: s.st, df := s.df }) hk2 rfl rfl rfl (by simp) hlp hlp fun i g' hg' => ?_⟩
  simp only [List.getElem?_set] at hg'
  by_cases e : j = i
  · subst e
    rw [if_pos rfl] at hg'
    split at hg'
    · cases hg'
      refine ⟨_, hj, fun v hv => ?_⟩
      unfold RepC at hv ⊢
      simp only [hp] at hv ⊢
      cases hv with
      | imm hv => cases hv; exact .onil hd sz (upd_same _ _ _)
    · cases hg'
  · rw [if_neg e] at hg'
    refine ⟨g', hg', fun v hv => ?_⟩
    unfold RepC at hv ⊢
    exact hv
theorem GW.adoptC {c : Code} (hh j hd : Nat) (e : TypeId) (sz : Nat) {k : Blk} (hk : sget s.st hh = some k) (hp : k.pure = false) (hj : k.cells[j]? = some (.val (.slice none 0 0))) (hf : fresh s hd = true)
  (h : GW P N cx c Q { fr := s.fr, st := sset ((hd, ⟨e, true, true, true, sz, [], none⟩) :: s.st) hh { k with cells := k.cells.set j (.osl hd sz 0 0) }, df := s.df }) (hlp : k.lp = none := by rfl) : GW P N cx c Q s := fun _ a w hr =>
 let ⟨μ', h'⟩ := hr.adoptC hh j hd e sz hk hp hj hf hlp
 h μ' a w h'
theorem GL.adoptC (hh j hd : Nat) (e : TypeId) (sz : Nat) {k : Blk} (hk : sget s.st hh = some k) (hp : k.pure = false) (hj : k.cells[j]? = some (.val (.slice none 0 0))) (hf : fresh s hd = true)
  (h : GL P N cx ops Q rest { fr := s.fr, st := sset ((hd, ⟨e, true, true, true, sz, [], none⟩) :: s.st) hh { k with cells := k.cells.set j (.osl hd sz 0 0) }, df := s.df }) (hlp : k.lp = none := by rfl) : GL P N cx ops Q rest s := fun _ a w hr =>
 let ⟨μ', h'⟩ := hr.adoptC hh j hd e sz hk hp hj hf hlp
 h μ' a w h'
def fzE (st st' : List (Nat × Blk)) (g g' : G) : Prop := fzG st st' g = some g' ∨ g = g'
def FzFr (st st' : List (Nat × Blk)) (fr : List (Nat × G)) : List (Nat × G) → Prop
 | [] => True
 | (t, g') :: r => (∃ g, get fr t = some g ∧ fzE st st' g g') ∧ FzFr st st' fr r
def FzL (st st' : List (Nat × Blk)) : List G → List G → Prop
 | [], [] => True
 | g :: r, g' :: r' => fzE st st' g g' ∧ FzL st st' r r'
 | _, _ => False
def FzSt (st st' : List (Nat × Blk)) : List (Nat × Blk) → Prop
 | [] => True
 | (h, k') :: r => (∃ k, sget st h = some k ∧ k'.ety = k.ety ∧ k'.mine = k.mine ∧ k'.sz = k.sz ∧ k'.pure = k.pure ∧ k'.fresh = k.fresh ∧ k'.lp = k.lp ∧ ((k.pure = true ∧ k'.cells = k.cells) ∨ (k.pure = false ∧ FzL st st' k.cells k'.cells))) ∧ FzSt st st' r
theorem FzFr.get {st st' : List (Nat × Blk)} {fr : List (Nat × G)} : ∀ {fr' : List (Nat × G)}, FzFr st st' fr fr' → ∀ {t : Nat} {g' : G}, AM.get fr' t = some g' → ∃ g, AM.get fr t = some g ∧ fzE st st' g g'
 | [], _, _, _, h => by cases h
 | (k, g0) :: r, ⟨h1, h2⟩, t, g', h => by
  simp only [AM.get] at h
  cases hk : Nat.beq k t with
  | true => rw [hk] at h; have := Nat.eq_of_beq_eq_true hk; subst this; simp at h; subst h; exact h1
  | false => rw [hk] at h; exact FzFr.get h2 h
theorem FzSt.get {st st' : List (Nat × Blk)} : ∀ {l : List (Nat × Blk)}, FzSt st st' l → ∀ {t : Nat} {k' : Blk}, sget l t = some k' → ∃ k, sget st t = some k ∧ k'.ety = k.ety ∧ k'.mine = k.mine ∧ k'.sz = k.sz ∧ k'.pure = k.pure ∧ k'.fresh = k.fresh ∧ k'.lp = k.lp ∧ ((k.pure = true ∧ k'.cells = k.cells) ∨ (k.pure = false ∧ FzL st st' k.cells k'.cells))
 | [], _, _, _, h => by cases h
 | (k, g0) :: r, ⟨h1, h2⟩, t, g', h => by
  simp only [sget] at h
  cases hk : Nat.beq k t with
  | true => rw [hk] at h; have := Nat.eq_of_beq_eq_true hk; subst this; simp at h; subst h; exact h1
  | false => rw [hk] at h; exact FzSt.get h2 h
theorem FzL.get {st st' : List (Nat × Blk)} : ∀ {l l' : List G}, FzL st st' l l' → l'.length = l.length ∧ ∀ {j : Nat} {g' : G}, l'[j]? = some g' → ∃ g, l[j]? = some g ∧ fzE st st' g g'
 | [], [], _ => ⟨rfl, fun h => by cases h⟩
 | _ :: _, [], h => h.elim
 | [], _ :: _, h => h.elim
 | g :: r, g1 :: r', ⟨h1, h2⟩ => by
  obtain ⟨h3, h4⟩ := FzL.get h2
  refine ⟨by simp [h3], fun {j g'} h => ?_⟩
  cases j with
  | zero => cases h; exact ⟨g, rfl, h1⟩
  | succ j => exact h4 h
end
end Go.AM
/-
 AM, part U: parts of slices and of texts.
-/
namespace Go.AM
section
variable {α : Type} [Enc α]
variable {P : Program} {N : Nat} {cx : Cx} {s : St} {W : List Nat}
variable {dst : Option Tmp} {ty : TypeId} {pos : String} {after : Array Edge} {guard : Option (Nat × Bool)}
theorem elem_of {t e : TypeId} (ht : P.underlying t = some (.slice e)) : P.underlying t = some (.slice (P.elem t)) := by
 have : P.elem t = e := by unfold Program.elem; rw [ht]
 rw [this]; exact ht
def lpart (l : List α) (i j : Int) : List α := (l.drop i.toNat).take (j.toNat - i.toNat)
omit [Enc α] in
theorem lpart_length {l : List α} {i j : Int} (_ : 0 ≤ i) (h1 : i ≤ j) (h2 : j ≤ (l.length : Int)) : (lpart l i j).length = j.toNat - i.toNat := by
 unfold lpart; rw [List.length_take, List.length_drop]; omega
theorem RepI.part {O : Nat → Prop} {w : World} {l : List α} {v : Value} {i j : Int} (h : RepI O w (.sl l.length (encs l)) v) (h0 : 0 ≤ i) (h1 : i ≤ j) (h2 : j ≤ (l.length : Int)) :
    ∃ (a : Option Addr) (len cap : Nat), v = .slice a len cap ∧ (len : Int) = l.length ∧ j ≤ cap ∧ (len : Int) ≤ cap ∧ ∀ m : Nat, (m : Int) = cap → RepI O w (.sl (lpart l i j).length (encs (lpart l i j))) (sliced a i.toNat j.toNat m (Enc.sz α)) := by
  have zero : l = [] → lpart l i j = [] := fun e => by subst e; simp [lpart]
  generalize hn : l.length = n at h
  generalize hc : encs l = cs at h
  cases h with
  | nil =>
    have hl : l = [] := List.eq_nil_of_length_eq_zero hn
    refine ⟨none, 0, 0, rfl, by omega, by omega, by omega, fun m hm => ?_⟩
    rw [zero hl]
    obtain rfl : m = 0 := by omega
    obtain rfl : i = 0 := by omega
    obtain rfl : j = 0 := by omega
    exact .nil
  | emp a cap =>
    have hl : l = [] := List.eq_nil_of_length_eq_zero hn
    refine ⟨some a, 0, cap, rfl, by omega, by omega, by omega, fun m hm => ?_⟩
    rw [zero hl]
    obtain rfl : i = 0 := by omega
    obtain rfl : j = 0 := by omega
    unfold sliced
    split
    · exact .emp _ _
    · exact .emp _ _
  | sl _ _ b off cap us hle hO hb hcell hr =>
    subst hn
    subst hc
    refine ⟨_, _, cap, rfl, rfl, by omega, by omega, fun m hm => ?_⟩
    obtain rfl : m = cap := by omega
    unfold sliced
    by_cases e : m = i.toNat
    · have : (lpart l i j).length = 0 := by rw [lpart_length h0 h1 h2]; omega
      have e2 : lpart l i j = [] := List.eq_nil_of_length_eq_zero this
      rw [e2, if_pos e]
      have e3 : j.toNat - i.toNat = 0 := by omega
      rw [e3]
      exact .emp _ _
    · rw [if_neg e, Option.map_some, Addr.add_off, lpart_length h0 h1 h2]
      have hsub : encs (lpart l i j) = ((encs l).drop (i.toNat * Enc.sz α)).take ((j.toNat - i.toNat) * Enc.sz α) := by
        unfold lpart
        rw [← encs_take, ← encs_drop]
      have hlen : (encs (lpart l i j)).length = (j.toNat - i.toNat) * Enc.sz α := by rw [encs_length, lpart_length h0 h1 h2]
      have hbig : i.toNat * Enc.sz α + (j.toNat - i.toNat) * Enc.sz α ≤ l.length * Enc.sz α := by
        rw [← Nat.add_mul]; exact Nat.mul_le_mul_right _ (by omega)
      refine .sl _ _ b (off + i.toNat * Enc.sz α) (m - i.toNat) (fun q => us (i.toNat * Enc.sz α + q)) (by omega) hO hb (fun q hq => ?_) (fun q g hg => ?_)
      · rw [hlen] at hq
        have := hcell (i.toNat * Enc.sz α + q) (by rw [encs_length]; omega)
        rw [← this]
        congr 2
        omega
      · have hq := (List.getElem?_eq_some_iff.1 hg).1
        rw [hlen] at hq
        rw [hsub, List.getElem?_take, if_pos hq, List.getElem?_drop] at hg
        exact hr _ g hg
theorem run_part {t e : TypeId} (ht : P.underlying t = some (.slice e)) (hsz : ∀ w, (sizeOf e).run P w = .ok (Enc.sz α) w) {k k' : IntKind} {i j : Int} (a : Option Addr) (len cap : Nat) (h0 : 0 ≤ i) (h1 : i ≤ j) (h2 : j ≤ cap) (w : World) :
  (Instr.sliceAt t (.slice a len cap) (some (.int k i)) (some (.int k' j)) none).run P w = .ok (sliced a i.toNat j.toNat cap (Enc.sz α)) w := by
 have he := elem_of ht
 have e : P.elem t = e := by unfold Program.elem; rw [ht]
 rw [run_sliceAt_slice w t _ _ _ _ he, run_slice_lh w t a len cap he k k' i j h0 h1 h2, e, hsz w]
 rfl
theorem run_part_l {t e : TypeId} (ht : P.underlying t = some (.slice e)) (hsz : ∀ w, (sizeOf e).run P w = .ok (Enc.sz α) w) {k : IntKind} {i : Int} (a : Option Addr) (len cap : Nat) (h0 : 0 ≤ i) (h1 : i ≤ len) (w : World) :
  (Instr.sliceAt t (.slice a len cap) (some (.int k i)) none none).run P w = .ok (sliced a i.toNat len cap (Enc.sz α)) w := by
 have he := elem_of ht
 have e : P.elem t = e := by unfold Program.elem; rw [ht]
 rw [run_sliceAt_slice w t _ _ _ _ he, run_slice_l w t a len cap he k i h0 h1, e, hsz w]
 rfl
theorem run_part_h {t e : TypeId} (ht : P.underlying t = some (.slice e)) (hsz : ∀ w, (sizeOf e).run P w = .ok (Enc.sz α) w) {k : IntKind} {j : Int} (a : Option Addr) (len cap : Nat) (h0 : 0 ≤ j) (h1 : j ≤ cap) (w : World) :
  (Instr.sliceAt t (.slice a len cap) none (some (.int k j)) none).run P w = .ok (sliced a 0 j.toNat cap (Enc.sz α)) w := by
 have he := elem_of ht
 have e : P.elem t = e := by unfold Program.elem; rw [ht]
 rw [run_sliceAt_slice w t _ _ _ _ he, run_slice_h w t a len cap he k j h0 h1, e, hsz w]
 rfl
def slG (f : Bool) (l : List α) : G := bif f then .fr (.sl l.length (encs l)) else .sl l.length (encs l)
theorem RepV.part {O : Nat → Prop} {base : Nat} {w : World} {μ : Mu} {f : Bool} {l : List α} {v : Value} {i j : Int} (h : RepV O base w μ (slG f l) v) (h0 : 0 ≤ i) (h1 : i ≤ j) (h2 : j ≤ (l.length : Int)) :
  ∃ (a : Option Addr) (len cap : Nat), v = .slice a len cap ∧ (len : Int) = l.length ∧ j ≤ cap ∧ (len : Int) ≤ cap ∧ RepV O base w μ (slG f (lpart l i j)) (sliced a i.toNat j.toNat cap (Enc.sz α)) := by
 cases f with
 | false =>
  cases h with
  | imm h => obtain ⟨a, len, cap, e1, e2, e3, e4, e5⟩ := h.part h0 h1 h2; exact ⟨a, len, cap, e1, e2, e3, e4, .imm (e5 cap rfl)⟩
 | true =>
  cases h with
  | imm h => cases h
  | fr h => obtain ⟨a, len, cap, e1, e2, e3, e4, e5⟩ := h.part h0 h1 h2; exact ⟨a, len, cap, e1, e2, e3, e4, .fr (e5 cap rfl)⟩
theorem PY.slice {t e : TypeId} {x lo hi : Operand} {f : Bool} {l : List α} {k k' : IntKind} {i j : Int} (hx : ev s x = some (slG f l)) (hl : ev s lo = some (.val (.int k i))) (hh : ev s hi = some (.val (.int k' j))) (ht : P.underlying t = some (.slice e)) (hsz : ∀ w, (sizeOf e).run P w = .ok (Enc.sz α) w)
  (h0 : 0 ≤ i) (h1 : i ≤ j) (h2 : j ≤ (l.length : Int)) : PY P s ⟨dst, .slice t x (some lo) (some hi) none, ty, pos, after, guard⟩ (slG f (lpart l i j)) := fun N cx μ a w hr => by
 obtain ⟨ad, len, cap, e1, e2, e3, e4, e5⟩ := (hr.ev hx).part h0 h1 h2
 refine ⟨_, e5, fun w' => ?_⟩
 simp [execOp, e1, hr.val hl, hr.val hh, run_part ht hsz ad len cap h0 h1 e3]
theorem PY.sliceL {t e : TypeId} {x lo : Operand} {f : Bool} {l : List α} {k : IntKind} {i : Int} (hx : ev s x = some (slG f l)) (hl : ev s lo = some (.val (.int k i))) (ht : P.underlying t = some (.slice e)) (hsz : ∀ w, (sizeOf e).run P w = .ok (Enc.sz α) w)
  (h0 : 0 ≤ i) (h1 : i ≤ (l.length : Int)) : PY P s ⟨dst, .slice t x (some lo) none none, ty, pos, after, guard⟩ (slG f (lpart l i (l.length : Int))) := fun N cx μ a w hr => by
 obtain ⟨ad, len, cap, e1, e2, e3, e4, e5⟩ := (hr.ev hx).part h0 h1 (Int.le_refl _)
 have e6 : len = ((l.length : Int)).toNat := by omega
 refine ⟨_, e5, fun w' => ?_⟩
 have := run_part_l (α := α) (P := P) ht hsz (k := k) ad len cap h0 (by omega) w'
 rw [← e6]
 simp [execOp, e1, hr.val hl, this]
theorem PY.sliceH {t e : TypeId} {x hi : Operand} {f : Bool} {l : List α} {k : IntKind} {j : Int} (hx : ev s x = some (slG f l)) (hh : ev s hi = some (.val (.int k j))) (ht : P.underlying t = some (.slice e)) (hsz : ∀ w, (sizeOf e).run P w = .ok (Enc.sz α) w)
  (h0 : 0 ≤ j) (h2 : j ≤ (l.length : Int)) : PY P s ⟨dst, .slice t x none (some hi) none, ty, pos, after, guard⟩ (slG f (lpart l 0 j)) := fun N cx μ a w hr => by
 obtain ⟨ad, len, cap, e1, e2, e3, e4, e5⟩ := (hr.ev hx).part (Int.le_refl 0) h0 h2
 refine ⟨_, e5, fun w' => ?_⟩
 have := run_part_h (α := α) (P := P) ht hsz (k := k) ad len cap h0 e3 w'
 simp [execOp, e1, hr.val hh, this]
theorem PY.sliceS {t : TypeId} {x lo hi : Operand} {b : ByteArray} {k k' : IntKind} {i j : Int} (hx : ev s x = some (.val (.string b))) (hl : ev s lo = some (.val (.int k i))) (hh : ev s hi = some (.val (.int k' j))) (ht : P.underlying t = some .string)
  (h0 : 0 ≤ i) (h1 : i ≤ j) (h2 : j ≤ (b.size : Int)) : PY P s ⟨dst, .slice t x (some lo) (some hi) none, ty, pos, after, guard⟩ (.val (.string (b.extract i.toNat j.toNat))) := fun N cx μ a w hr => by
 refine ⟨_, .imm (.val _), fun w' => ?_⟩
 have eh : (j.toNat : Int) = j := Int.toNat_of_nonneg (by omega)
 have : (Instr.slice t (.string b) (some (.int k i)) (some (.int k' j)) none).run P w' = .ok (.string (b.extract i.toNat j.toNat)) w' := by
  simp [Instr.slice, run_underlying ht, Instr.sliceBounds, run_sliceBound, *, eh, (by omega : 0 ≤ i), (by omega : 0 ≤ j)]
 simp [execOp, hr.val hx, hr.val hl, hr.val hh, run_sliceAt_string w' t _ _ _ _ ht, this]
theorem PY.sliceSL {t : TypeId} {x lo : Operand} {b : ByteArray} {k : IntKind} {i : Int} (hx : ev s x = some (.val (.string b))) (hl : ev s lo = some (.val (.int k i))) (ht : P.underlying t = some .string)
  (h0 : 0 ≤ i) (h1 : i ≤ (b.size : Int)) : PY P s ⟨dst, .slice t x (some lo) none none, ty, pos, after, guard⟩ (.val (.string (b.extract i.toNat b.size))) := fun N cx μ a w hr => by
 refine ⟨_, .imm (.val _), fun w' => ?_⟩
 simp [execOp, hr.val hx, hr.val hl, run_sliceAt_string w' t _ _ _ _ ht, run_slice_string_l w' t b ht k i h0 h1]
theorem PY.sliceSH {t : TypeId} {x hi : Operand} {b : ByteArray} {k : IntKind} {j : Int} (hx : ev s x = some (.val (.string b))) (hh : ev s hi = some (.val (.int k j))) (ht : P.underlying t = some .string)
  (h0 : 0 ≤ j) (h2 : j ≤ (b.size : Int)) : PY P s ⟨dst, .slice t x none (some hi) none, ty, pos, after, guard⟩ (.val (.string (b.extract 0 j.toNat))) := fun N cx μ a w hr => by
 refine ⟨_, .imm (.val _), fun w' => ?_⟩
 simp [execOp, hr.val hx, hr.val hh, run_sliceAt_string w' t _ _ _ _ ht, run_slice_string_h w' t b ht k j h0 h2]
theorem PY.sliceO {t e : TypeId} {x hi : Operand} {h n : Nat} {k : IntKind} {j : Int} (hx : ev s x = some (.osl h (Enc.sz α) 0 n)) (hh : ev s hi = some (.val (.int k j))) (ht : P.underlying t = some (.slice e)) (hsz : ∀ w, (sizeOf e).run P w = .ok (Enc.sz α) w)
  (h0 : 0 ≤ j) (h2 : j ≤ (n : Int)) : PY P s ⟨dst, .slice t x none (some hi) none, ty, pos, after, guard⟩ (.osl h (Enc.sz α) 0 j.toNat) := fun N cx μ a w hr => by
 have hv := hr.ev hx
 have key : ∃ (ad : Option Addr) (len cap : Nat), a.eval x = .slice ad len cap ∧ j ≤ (cap : Int) ∧ RepV (cx.O s.st μ) cx.base w μ (.osl h (Enc.sz α) 0 j.toNat) (sliced ad 0 j.toNat cap (Enc.sz α)) := by
  generalize a.eval x = v at hv
  have hz : ∀ ad : Option Addr, sliced ad 0 0 0 (Enc.sz α) = .slice ad 0 0 := fun ad => by simp [sliced]
  cases hv with
  | imm hv => cases hv
  | onil _ _ hm =>
   obtain rfl : j = 0 := by omega
   exact ⟨none, 0, 0, rfl, by omega, .onil h _ hm⟩
  | osl _ _ _ _ b m cap hm hn hc =>
   refine ⟨_, _, cap, rfl, by omega, ?_⟩
   unfold sliced
   have : (if cap = 0 then (some ⟨b, 0, none⟩ : Option Addr) else (some (⟨b, 0, none⟩ : Addr)).map (·.add (0 * Enc.sz α))) = some ⟨b, 0, none⟩ := by
    split
    · rfl
    · simp [Addr.add]
   rw [this]
   exact .osl h _ 0 _ b m cap hm (by omega) hc
  | ozero _ _ off0 b m hm hpos => omega
 obtain ⟨ad, len, cap, e1, e2, e3⟩ := key
 refine ⟨_, e3, fun w' => ?_⟩
 have := run_part_h (α := α) (P := P) ht hsz (k := k) ad len cap h0 e2 w'
 simp [execOp, e1, hr.val hh, this]
theorem Rel.trunc {μ : Mu} {a : Act} {w : World} (h : Rel N cx μ s a w) {hh : Nat} {k : Blk} {l : List α} (hk : sget s.st hh = some k) (hc : k.cells = encs l) (n : Nat) (hlp : k.lp = none) :
    Rel N cx μ { fr := s.fr, st := sset s.st hh { k with cells := encs (l.take n) }, df := s.df } a w := by
  refine h.restate hk rfl rfl rfl ?_ hlp hlp fun j g' hg' => ⟨g', ?_, fun v hv => hv⟩
  · simp only; rw [hc, ← encs_take, List.length_take]; omega
  · simp only at hg'
    rw [← encs_take, List.getElem?_take] at hg'
    split at hg'
    · rw [hc]; exact hg'
    · cases hg'
theorem GL.trunc {Q : Exit → St → Prop} {ops : Array Oper} {rest : List Oper} (hh : Nat) {k : Blk} {l : List α} (hk : sget s.st hh = some k) (hc : k.cells = encs l) (n : Nat)
  (h : GL P N cx ops Q rest { fr := s.fr, st := sset s.st hh { k with cells := encs (l.take n) }, df := s.df }) (hlp : k.lp = none := by rfl) : GL P N cx ops Q rest s := fun μ a w hr => h μ a w (hr.trunc hk hc n hlp)
theorem take_len {l : List α} {j : Int} (h0 : 0 ≤ j) (h1 : j ≤ (l.length : Int)) : j.toNat = (l.take j.toNat).length := by rw [List.length_take]; omega
end
end Go.AM
/-
 AM, part V: results that lean on what was handed in; calls that hand in nothing of the call's own.
-/
namespace Go.AM
def viewI : G → Option G
 | .val v => some (viewV v)
 | .sl n cs => some (.sl n cs)
 | .ptr cs => some (.ptr cs)
 | .fr g => some g
 | .agg gs => (go gs).map .agg
 | .clo f caps => (go caps).map (.clo f)
 | _ => none
where go : List G → Option (List G)
 | [] => some []
 | g :: r => match viewI g, go r with
  | some g', some r' => some (g' :: r')
  | _, _ => none
theorem viewI_go : ∀ {gs gs' : List G}, viewI.go gs = some gs' → gs'.length = gs.length ∧ ∀ (j : Nat) (g' : G), gs'[j]? = some g' → ∃ g, gs[j]? = some g ∧ viewI g = some g'
 | [], _, h => by cases h; exact ⟨rfl, fun j g h => by simp at h⟩
 | g :: r, gs', h => by
  simp only [viewI.go] at h
  cases h1 : viewI g with
  | none => rw [h1] at h; cases h
  | some g1 =>
   rw [h1] at h
   cases h2 : viewI.go r with
   | none => rw [h2] at h; cases h
   | some r1 =>
    rw [h2] at h
    cases h
    obtain ⟨h3, h4⟩ := viewI_go h2
    refine ⟨by simp [h3], fun j g' hg' => ?_⟩
    cases j with
    | zero => cases hg'; exact ⟨g, rfl, h1⟩
    | succ j => exact h4 j g' hg'
theorem viewI_imm {O : Nat → Prop} {base : Nat} {μ : Mu} {w : World} {g g' : G} {v : Value} (h : RepI O w g v) (hf : viewI g = some g') : RepV O base w μ g' v := by
 induction h generalizing g' with
 | any v => cases hf
 | val v =>
  cases hf
  unfold viewV
  split
  · exact .imm .nil
  · exact .imm (.val _)
 | nil => cases hf; exact .imm .nil
 | emp a c => cases hf; exact .imm (.emp a c)
 | sl n cells b off cap us h1 h2 h3 h4 h5 ih => cases hf; exact .imm (.sl n cells b off cap us h1 h2 h3 h4 h5)
 | ptr cells b off us h1 h2 h3 h4 ih => cases hf; exact .imm (.ptr cells b off us h1 h2 h3 h4)
 | agg cells us hl hr ih =>
  simp only [viewI, Option.map_eq_some_iff] at hf
  obtain ⟨gs', h1, rfl⟩ := hf
  obtain ⟨h2, h3⟩ := viewI_go h1
  refine .agg gs' us (by omega) fun j g v hg hv => ?_
  obtain ⟨g0, h4, h5⟩ := h3 j g hg
  exact ih j g0 v h4 hv h5
theorem viewI_spec {O : Nat → Prop} {base base' : Nat} {μ μ' : Mu} {w : World} {g g' : G} {v : Value} (h : RepV O base w μ g v) (hf : viewI g = some g') : RepV O base' w μ' g' v := by
 induction h generalizing g' with
 | imm h => exact viewI_imm h hf
 | fr h => cases hf; exact .imm h.old
 | agg cells us hl hr ih =>
  simp only [viewI, Option.map_eq_some_iff] at hf
  obtain ⟨gs', h1, rfl⟩ := hf
  obtain ⟨h2, h3⟩ := viewI_go h1
  refine .agg gs' us (by omega) fun j g v hg hv => ?_
  obtain ⟨g0, h4, h5⟩ := h3 j g hg
  exact ih j g0 v h4 hv h5
 | clo f caps us hl hr ih =>
  simp only [viewI, Option.map_eq_some_iff] at hf
  obtain ⟨gs', h1, rfl⟩ := hf
  obtain ⟨h2, h3⟩ := viewI_go h1
  refine .clo f gs' us (by omega) fun j g v hg hv => ?_
  obtain ⟨g0, h4, h5⟩ := h3 j g hg
  exact ih j g0 v h4 hv h5
 | _ => cases hf
def impG : G → Bool
 | .val _ => true
 | .sl _ _ => true
 | .ptr _ => true
 | .fr _ => true
 | .agg gs => go gs
 | .tup gs => go gs
 | .clo _ gs => go gs
 | _ => false
where go : List G → Bool
 | [] => true
 | g :: r => impG g && go r
theorem impG_go {gs : List G} (h : impG.go gs = true) : ∀ (j : Nat) (g : G), gs[j]? = some g → impG g = true := by
 induction gs with
 | nil => intro j g hg; simp at hg
 | cons x r ih =>
  simp only [impG.go, Bool.and_eq_true] at h
  intro j g hg
  cases j with
  | zero => cases hg; exact h.1
  | succ j => exact ih h.2 j g hg
theorem impG_spec {O O' : Nat → Prop} {base base' : Nat} {μ μ' : Mu} {w : World} {g : G} {v : Value} (h : RepV O base w μ g v) (hi : impG g = true) (hO : ∀ b, O' b → O b) (hb : ∀ b, b < base' → b < base) : RepV O' base' w μ' g v := by
 induction h with
 | imm h => exact .imm (h.mono (Kept.refl _ _) fun b _ hn ho => hn (hO b ho))
 | fr h =>
  refine .fr (h.mono (Kept.refl _ _) ?_)
  rintro b _ hn (ho | ho)
  · exact hn (.inl (hb b ho))
  · exact hn (.inr (hO b ho))
 | agg cells us hl hr ih => exact .agg cells us hl fun j g v hg hv => ih j g v hg hv (impG_go hi j g hg)
 | tup cells us hl hr ih => exact .tup cells us hl fun j g v hg hv => ih j g v hg hv (impG_go hi j g hg)
 | clo f cells us hl hr ih => exact .clo f cells us hl fun j g v hg hv => ih j g v hg hv (impG_go hi j g hg)
 | _ => cases hi
section
variable {P : Program} {N : Nat} {cx : Cx} {s : St}
variable {ty : TypeId} {pos : String} {after : Array Edge} {guard : Option (Nat × Bool)} {W : List Nat} {d : Nat}
theorem call_coreA {f : FuncId} {vs : List Value} {gs gs' : List G} {Q : G → List (Nat × Blk) → Prop} {μ : Mu} {a : Act} {w : World} (hr : Rel N cx μ s a w) (hv : mapO viewI gs = some gs')
    (hvs : vs.length = gs.length) (hrep : ∀ (j : Nat) (g : G) (v : Value), gs[j]? = some g → vs[j]? = some v → RepV (cx.O s.st μ) cx.base w μ g v)
    (hcon : GM P f gs' [] Q) (hres : ∀ r st', Q r st' → impG r = true ∧ st' = []) :
    Calls P f vs.toArray w fun e w' => ∃ v r st', e = .returned v ∧ Q r st' ∧ Rel N cx μ s a w' ∧ RepV (cx.O s.st μ) cx.base w' μ r v ∧ Step W s.st μ s.st μ w w' := by
  obtain ⟨h1, h2⟩ := mapO_get hv
  have hX : ∀ b, cx.O s.st μ b → b < w.heap.size := fun b hb => by
    rcases hb with hb | hb
    · have := hr.st.xlt b hb; have := hr.st.hb; omega
    · exact own_lt hr.st hb
  refine (hcon.returned (cx.O s.st μ) (fun _ => none) w vs hX (relSt_nil hX) (by omega) fun j g v hg hv => ?_).mono ?_
  · obtain ⟨g0, h3, h4⟩ := h2 j g hg
    have := viewI_spec (base' := w.heap.size) (μ' := fun _ => none) (hrep j g0 v h3 hv) h4
    exact this.mono (Kept.refl _ _) (fun b _ hn ho => ho.elim hn own_nil) (Nat.le_refl _)
  · rintro e w' ⟨v, r, st', μ', rfl, hq, hst, hrv⟩
    have hkeep : ∀ b, b < w.heap.size → w'.heap[b]? = w.heap[b]? := fun b hb => hst.keep b hb own_nil
    obtain ⟨hf, hs⟩ := hres r st' hq
    subst hs
    refine ⟨v, r, [], rfl, hq, hr.kept hst.hb hkeep hst.os hst.tape hst.output, ?_, ⟨hst.hb, fun b hb _ => hkeep b hb, fun h k b m hw h1 h2 => .inl ⟨h, k, m, hw, h1, h2⟩⟩⟩
    exact impG_spec hrv hf (fun b hb => .inl hb) (fun b hb => Nat.lt_of_lt_of_le hb hr.st.hb)
theorem EF.callA {f : FuncId} {xs : Array Operand} {ts : Array TypeId} {gs gs' : List G} {Q : G → List (Nat × Blk) → Prop} (hc : ∀ args w, (callFunc f args).run P w = .ok (.enter f args) w)
  (hx : evA s xs.toList = some gs) (hv : mapO viewI gs = some gs') (hcon : GM P f gs' [] Q) (hres : ∀ r st', Q r st' → impG r = true ∧ st' = []) :
  Effect P W s ⟨some d, .call ⟨.value (.func f), xs, ts⟩, ty, pos, after, guard⟩ (fun s' => ∃ r st', Q r st' ∧ s' = s.put d r) := by
 refine ⟨(fun _ h => by cases h), ?_⟩
 intro N cx μ a w hr hN K Q' hK
 obtain ⟨h1, h2⟩ := evA_get hx
 have hcall := call_coreA (vs := xs.toList.map a.eval) (W := W) hr hv (by simp [h1]) (fun j g v hg hv => by
  obtain ⟨x, hxj, he⟩ := h2 j g hg
  rw [List.getElem?_map, hxj] at hv
  cases hv
  exact hr.ev he) hcon hres
 unfold Oper.wp
 have : (execOp a.eval ⟨some d, .call ⟨.value (.func f), xs, ts⟩, ty, pos, after, guard⟩).run P w = .ok (.enter f (xs.toList.map a.eval).toArray) w := by
  have e : xs.map a.eval = (xs.toList.map a.eval).toArray := by rw [← Array.toList_map]
  simp [execOp, resolve, invoke, Deferred.ofValue, Act.eval, hc, e]
 rw [this]
 refine hcall.mono ?_
 rintro e w' ⟨v, r, st', rfl, hq, hr', hrv, hst⟩
 exact hK μ _ _ w' (hr'.put (hN d rfl) hrv) ⟨r, st', hq, rfl⟩ hst
end
end Go.AM
/-
 AM, part W: lists without references.
-/
namespace Go.AM
class Flat (α : Type) [Enc α] : Prop where
 flat : ∀ (a : α) (g : G), g ∈ Enc.cells a → ∃ v, g = .val v
instance : Flat Int := ⟨fun a g h => by simp [Enc.cells] at h; exact ⟨_, h⟩⟩
instance : Flat Bool := ⟨fun a g h => by simp [Enc.cells] at h; exact ⟨_, h⟩⟩
instance : Flat ByteArray := ⟨fun a g h => by simp [Enc.cells] at h; exact ⟨_, h⟩⟩
section
variable {α : Type} [Enc α] [Flat α]
variable {P : Program} {N : Nat} {cx : Cx} {Q : Exit → St → Prop} {s : St} {ops : Array Oper} {rest : List Oper}
theorem Rel.refresh {μ : Mu} {a : Act} {w : World} (h : Rel N cx μ s a w) {hh : Nat} {k : Blk} {l : List α} (hk : sget s.st hh = some k) (hc : k.cells = encs l) (hp : k.pure = true) (hlp : k.lp = none) :
  Rel N cx μ { fr := s.fr, st := sset s.st hh { k with fresh := true }, df := s.df } a w := by
 refine h.restate hk rfl rfl rfl (Nat.le_refl _) hlp hlp fun j g' hg' => ⟨g', hg', fun v hv => ?_⟩
 simp only at hg'
 rw [hc] at hg'
 obtain ⟨x, _, hx⟩ := List.mem_flatMap.1 (List.mem_of_getElem? hg')
 obtain ⟨u, rfl⟩ := Flat.flat x g' hx
 unfold RepC at hv ⊢
 simp only [hp] at hv ⊢
 cases hv
 exact .val _
theorem GL.refresh (hh : Nat) {k : Blk} {l : List α} (hk : sget s.st hh = some k) (hc : k.cells = encs l) (hp : k.pure = true) (h : GL P N cx ops Q rest { fr := s.fr, st := sset s.st hh { k with fresh := true }, df := s.df }) (hlp : k.lp = none := by rfl) : GL P N cx ops Q rest s :=
 fun μ a w hr => h μ a w (hr.refresh hk hc hp hlp)
theorem GH2.refresh {W : List Nat} {fuel : Nat} {listed : Array Bool} (hh : Nat) {k : Blk} {l : List α} (hk : sget s.st hh = some k) (hc : k.cells = encs l) (hp : k.pure = true)
  (h : GH2 P N cx ops Q W fuel listed { fr := s.fr, st := sset s.st hh { k with fresh := true }, df := s.df }) (hlp : k.lp = none := by rfl) : GH2 P N cx ops Q W fuel listed s := fun ws Wb μ a w hr hS hW =>
 h ws Wb μ a w (hr.refresh hk hc hp hlp) hS fun x k' b m h1 h2 h3 => by
  rcases sget_sset_iff hk h2 with ⟨rfl, rfl⟩ | ⟨_, h2⟩
  · exact hW x k b m h1 hk h3
  · exact hW x k' b m h1 h2 h3
end
section
variable {P : Program} {N : Nat} {cx : Cx} {Q : Exit → St → Prop} {s : St} {ops : Array Oper} {rest : List Oper}
end
section
variable {P : Program} {N : Nat} {cx : Cx} {Q : Exit → St → Prop} {s : St} {ops : Array Oper}
def Turn (P : Program) (N : Nat) (cx : Cx) (ops : Array Oper) (Q : Exit → St → Prop) (W : List Nat) (fuel : Nat) (listed : Array Bool) (s : St) (i : Nat) : Prop :=
 ∀ (ws : World) (Wb : Nat → Prop) (μ : Mu) (a : Act) (w : World), Rel N cx μ s a w → Sw ws Wb w → (∀ h k b m, h ∈ W → sget s.st h = some k → μ h = some (b, m) → Wb b ∨ ws.heap.size ≤ b) →
  wpOp P ops (lift N cx Q) i (fun a' w' => Sw ws Wb w' ∧ wpAnyH P .any ops (lift N cx Q) (Sw ws Wb) fuel (listed.setIfInBounds i true) a' w') a w
theorem Turn.y {W : List Nat} {fuel : Nat} {listed : Array Bool} (i : Nat) {o : Oper} {d : Nat} {g : G} (hi : ops[i]? = some o) (hw : wants ops s o.guard = some true) (hd : o.dst = some d) (hN : d < N) (hy : Yield P [] s o g)
  (h : GH2 P N cx ops Q W fuel (listed.setIfInBounds i true) (s.put d g)) : Turn P N cx ops Q W fuel listed s i := by
 intro ws Wb μ a w hrel hS hW
 obtain ⟨v, hv, hrun⟩ := hy N cx μ a w hrel
 have hrun := hrun w (Nat.le_refl _) (fun _ _ _ => rfl)
 unfold wpOp
 simp only [hi]
 rw [if_pos (wants_spec hrel hw)]
 refine .inl ?_
 unfold Oper.wp
 rw [hrun]
 show Sw ws Wb w ∧ _
 refine ⟨hS, ?_⟩
 rw [hd]
 exact h ws Wb μ _ w (hrel.put hN hv) hS hW
theorem Turn.e {W : List Nat} {fuel : Nat} {listed : Array Bool} (i : Nat) {o : Oper} {T : St → Prop} (hi : ops[i]? = some o) (hw : wants ops s o.guard = some true) (hN : ∀ d, o.dst = some d → d < N) (he : Effect P W s o T)
    (h : ∀ s', T s' → GH2 P N cx ops Q W fuel (listed.setIfInBounds i true) s') : Turn P N cx ops Q W fuel listed s i := by
  intro ws Wb μ a w hrel hS hW
  unfold wpOp
  simp only [hi]
  rw [if_pos (wants_spec hrel hw)]
  have := he.2 N cx μ a w hrel hN (fun a' w' => Sw ws Wb w' ∧ wpAnyH P .any ops (lift N cx Q) (Sw ws Wb) fuel (listed.setIfInBounds i true) a' w') (lift N cx Q) ?_
  · exact .inl this
  · intro μ' s' a' w' hrel' ht hst
    have hS' : Sw ws Wb w' := by
      refine ⟨Nat.le_trans hS.size hst.size, fun b hb hn => ?_⟩
      rw [hst.block b (Nat.lt_of_lt_of_le hb hS.size) ?_]
      · exact hS.block b hb hn
      · intro h k m h1 h2 h3
        rcases hW h k b m h1 h2 h3 with h4 | h4
        · exact hn h4
        · omega
    refine ⟨hS', h s' ht ws Wb μ' a' w' hrel' hS' ?_⟩
    intro h k' b m h1 h2 h3
    rcases hst.hand h k' b m h1 h2 h3 with ⟨h0, k, m0, hw0, h4, h5⟩ | h4
    · exact hW h0 k b m0 hw0 h4 h5
    · exact .inr (Nat.le_trans hS.size h4)
def Turns (P : Program) (N : Nat) (cx : Cx) (ops : Array Oper) (Q : Exit → St → Prop) (W : List Nat) (fuel : Nat) (listed : Array Bool) (s : St) : List Nat → Prop
 | [] => True
 | i :: r => Turn P N cx ops Q W fuel listed s i ∧ Turns P N cx ops Q W fuel listed s r
theorem Turns.get {W : List Nat} {fuel : Nat} {listed : Array Bool} : ∀ {rs : List Nat}, Turns P N cx ops Q W fuel listed s rs → ∀ i ∈ rs, Turn P N cx ops Q W fuel listed s i
 | [], _, _, h => by cases h
 | j :: r, ⟨h1, h2⟩, i, h => by
  rcases List.mem_cons.1 h with rfl | h
  · exact h1
  · exact Turns.get h2 i h
theorem GH2.any {W : List Nat} {fuel : Nat} {listed : Array Bool} (i : Nat) (r : List Nat) (hr : Region.ready .any ops listed = i :: r) (h : Turns P N cx ops Q W fuel listed s (i :: r)) : GH2 P N cx ops Q W (fuel + 1) listed s := by
 intro ws Wb μ a w hrel hS hW
 refine wpAnyH_all hr (by simp) fun j hj => h.get j hj ws Wb μ a w hrel hS hW
end
end Go.AM
/-
 AM, part X: calls to which blocks of the caller's own are lent: how handles are told anew, there and back.
-/
namespace Go.AM
def idxH : List Nat → Nat → Option Nat
 | [], _ => none
 | x :: r, h => bif Nat.beq x h then some 0 else (idxH r h).map (· + 1)
theorem idxH_some : ∀ {H : List Nat} {h i : Nat}, idxH H h = some i → H[i]? = some h
 | [], _, _, e => by cases e
 | x :: r, h, i, e => by
  simp only [idxH] at e
  cases hb : Nat.beq x h with
  | true => rw [hb] at e; cases e; have := Nat.eq_of_beq_eq_true hb; subst this; rfl
  | false =>
   rw [hb] at e
   obtain ⟨n, h1, h2⟩ := Option.map_eq_some_iff.1 e
   subst h2
   exact idxH_some (H := r) h1
theorem idxH_none : ∀ {H : List Nat} {h : Nat}, idxH H h = none → h ∉ H
 | [], _, _ => fun h => by cases h
 | x :: r, h, e => by
  simp only [idxH] at e
  cases hb : Nat.beq x h with
  | true => rw [hb] at e; cases e
  | false =>
   rw [hb] at e
   intro hm
   rcases List.mem_cons.1 hm with rfl | hm
   · rw [Nat.beq_refl] at hb; cases hb
   · exact idxH_none (Option.map_eq_none_iff.1 e) hm
def lendG (H : List Nat) (stv : List (Nat × Blk)) : G → Option G
 | .loc h off => match idxH H h with
  | some i => some (.loc (1000 + i) off)
  | none => view 4 stv (.loc h off)
 | .osl h sz off m => match idxH H h with
  | some i => some (.osl (1000 + i) sz off m)
  | none => view 4 stv (.osl h sz off m)
 | .yld h => match idxH H h with
  | some i => some (.yld (1000 + i))
  | none => none
 | .agg gs => (go gs).map .agg
 | .clo f gs => (go gs).map (.clo f)
 | .val v => some (viewV v)
 | .sl n cs => some (.sl n cs)
 | .ptr cs => some (.ptr cs)
 | .fr g => some g
 | _ => none
where go : List G → Option (List G)
 | [] => some []
 | g :: r => match lendG H stv g, go r with
  | some g', some r' => some (g' :: r')
  | _, _ => none
theorem lendG_go {H : List Nat} {stv : List (Nat × Blk)} : ∀ {gs gs' : List G}, lendG.go H stv gs = some gs' → gs'.length = gs.length ∧ ∀ (j : Nat) (g' : G), gs'[j]? = some g' → ∃ g, gs[j]? = some g ∧ lendG H stv g = some g'
 | [], _, h => by cases h; exact ⟨rfl, fun j g h => by simp at h⟩
 | g :: r, gs', h => by
  simp only [lendG.go] at h
  cases h1 : lendG H stv g with
  | none => rw [h1] at h; cases h
  | some g1 =>
   rw [h1] at h
   cases h2 : lendG.go H stv r with
   | none => rw [h2] at h; cases h
   | some r1 =>
    rw [h2] at h
    cases h
    obtain ⟨h3, h4⟩ := lendG_go h2
    refine ⟨by simp [h3], fun j g' hg' => ?_⟩
    cases j with
    | zero => cases hg'; exact ⟨g, rfl, h1⟩
    | succ j => exact h4 j g' hg'
def lendB (H : List Nat) (stv : List (Nat × Blk)) (k : Blk) : Option Blk :=
 bif k.pure then some { k with mine := false, fresh := false } else match lendG.go H stv k.cells with
  | some cs => some { k with mine := false, fresh := false, cells := cs }
  | none => none
def lendSt (H : List Nat) (stv st : List (Nat × Blk)) : List Nat → Nat → Option (List (Nat × Blk))
 | [], _ => some []
 | h :: r, i => match sget st h with
  | some k => match lendB H stv k, lendSt H stv st r (i + 1) with
   | some k', some r' => some ((1000 + i, k') :: r')
   | _, _ => none
  | none => none
theorem lendSt_get {H : List Nat} {stv st : List (Nat × Blk)} : ∀ {r : List Nat} {i : Nat} {stC : List (Nat × Blk)}, lendSt H stv st r i = some stC → ∀ {j : Nat} {k' : Blk}, sget stC j = some k' →
  ∃ n h k, j = 1000 + (i + n) ∧ r[n]? = some h ∧ sget st h = some k ∧ lendB H stv k = some k'
 | [], _, _, e, _, _, h => by cases e; cases h
 | x :: r, i, stC, e, j, k', h => by
  simp only [lendSt] at e
  cases hk : sget st x with
  | none => rw [hk] at e; cases e
  | some k =>
   rw [hk] at e
   dsimp only at e
   cases h1 : lendB H stv k with
   | none => rw [h1] at e; cases e
   | some k1 =>
    rw [h1] at e
    cases h2 : lendSt H stv st r (i + 1) with
    | none => rw [h2] at e; cases e
    | some r' =>
     rw [h2] at e
     cases e
     simp only [sget] at h
     cases hb : Nat.beq (1000 + i) j with
     | true =>
      rw [hb] at h
      cases h
      exact ⟨0, x, k, (Nat.eq_of_beq_eq_true hb).symm, rfl, hk, h1⟩
     | false =>
      rw [hb] at h
      obtain ⟨n, y, k2, e1, e2, e3, e4⟩ := lendSt_get h2 h
      exact ⟨n + 1, y, k2, by omega, e2, e3, e4⟩
theorem lendSt_dom {H : List Nat} {stv st : List (Nat × Blk)} : ∀ {r : List Nat} {i : Nat} {stC : List (Nat × Blk)}, lendSt H stv st r i = some stC → ∀ {n h : Nat}, r[n]? = some h → (∃ k', sget stC (1000 + (i + n)) = some k') ∧ ∃ k, sget st h = some k
 | [], _, _, _, _, _, h => by cases h
 | x :: r, i, stC, e, n, y, h => by
  simp only [lendSt] at e
  cases hk : sget st x with
  | none => rw [hk] at e; cases e
  | some k =>
   rw [hk] at e
   dsimp only at e
   cases h1 : lendB H stv k with
   | none => rw [h1] at e; cases e
   | some k1 =>
    rw [h1] at e
    cases h2 : lendSt H stv st r (i + 1) with
    | none => rw [h2] at e; cases e
    | some r' =>
     rw [h2] at e
     cases e
     cases n with
     | zero => cases h; exact ⟨⟨k1, by rw [Nat.add_zero, sget_cons_same]⟩, k, hk⟩
     | succ n =>
      obtain ⟨⟨k', h3⟩, h4⟩ := lendSt_dom h2 (n := n) (h := y) h
      refine ⟨⟨k', ?_⟩, h4⟩
      rw [sget_cons_other _ _ (by omega), show 1000 + (i + (n + 1)) = 1000 + (i + 1 + n) by omega]
      exact h3
def muC (H : List Nat) (μ : Mu) : Mu := fun j => bif pinned j then (H[j - 1000]?).bind μ else none
theorem pinned_add (i : Nat) : pinned (1000 + i) = true := Nat.ble_eq_true_of_le (by omega)
theorem muC_at {H : List Nat} {μ : Mu} {i h : Nat} (e : H[i]? = some h) : muC H μ (1000 + i) = μ h := by
 unfold muC
 rw [pinned_add, cond_true, show 1000 + i - 1000 = i by omega, e]
 rfl
def outSt (H : List Nat) : List (Nat × Blk) → List (Nat × Blk)
 | [] => []
 | (h, k) :: r => match idxH H h with
  | some _ => outSt H r
  | none => (h, k) :: outSt H r
theorem outSt_get {H : List Nat} {h : Nat} {k : Blk} : ∀ {st : List (Nat × Blk)}, sget (outSt H st) h = some k → idxH H h = none ∧ sget st h = some k
 | [], e => by cases e
 | (x, k') :: r, e => by
  simp only [outSt] at e
  cases hx : idxH H x with
  | some i =>
   rw [hx] at e
   obtain ⟨h1, h2⟩ := outSt_get e
   refine ⟨h1, ?_⟩
   rw [sget_cons_other _ _ fun e => by subst e; rw [hx] at h1; cases h1]
   exact h2
  | none =>
   rw [hx] at e
   simp only [sget] at e ⊢
   cases hb : Nat.beq x h with
   | true =>
    rw [hb] at e
    have := Nat.eq_of_beq_eq_true hb
    subst this
    exact ⟨hx, e⟩
   | false => rw [hb] at e; exact outSt_get e
theorem outSt_of {H : List Nat} {h : Nat} {k : Blk} (hi : idxH H h = none) : ∀ {st : List (Nat × Blk)}, sget st h = some k → sget (outSt H st) h = some k
 | [], e => by cases e
 | (x, k') :: r, e => by
  simp only [outSt]
  simp only [sget] at e
  cases hb : Nat.beq x h with
  | true =>
   rw [hb] at e
   have := Nat.eq_of_beq_eq_true hb
   subst this
   rw [hi]
   simp only [sget, Nat.beq_refl]
   exact e
  | false =>
   rw [hb] at e
   have := outSt_of hi (st := r) e
   split
   · exact this
   · simp only [sget, hb]; exact this
def lendX (cx : Cx) (st : List (Nat × Blk)) (μ : Mu) (H : List Nat) (vw : Bool) : Nat → Prop := fun b => cx.X b ∨ (vw = false ∧ Own (outSt H st) μ b)
def lendV (st : List (Nat × Blk)) (H : List Nat) (vw : Bool) : List (Nat × Blk) := bif vw then outSt H st else []
section
variable {P : Program} {N : Nat} {cx : Cx} {s : St}
theorem own_lent {st stC stv : List (Nat × Blk)} {H : List Nat} {μ : Mu} (hls : lendSt H stv st H 0 = some stC) {b : Nat} (ho : Own stC (muC H μ) b) : ∃ (i h : Nat) (k : Blk) (m : Nat), H[i]? = some h ∧ sget st h = some k ∧ μ h = some (b, m) := by
 obtain ⟨j, k', m, h1, h2⟩ := ho
 obtain ⟨n, h, k, rfl, e2, e3, _⟩ := lendSt_get hls h1
 rw [Nat.zero_add, muC_at e2] at h2
 exact ⟨n, h, k, m, e2, e3, h2⟩
theorem own_out {st : List (Nat × Blk)} {H : List Nat} {μ : Mu} {b : Nat} (ho : Own (outSt H st) μ b) : ∃ h k m, idxH H h = none ∧ sget st h = some k ∧ μ h = some (b, m) := by
 obtain ⟨h, k, m, h1, h2⟩ := ho
 obtain ⟨h3, h4⟩ := outSt_get h1
 exact ⟨h, k, m, h3, h4, h2⟩
theorem mem_of_idx {H : List Nat} {i h : Nat} (e : H[i]? = some h) : h ∈ H := List.mem_of_getElem? e
theorem not_both {st : List (Nat × Blk)} {H : List Nat} {μ : Mu} {w : World} (hst : RelSt cx μ st w) {i h h' b m m' : Nat} {k k' : Blk} (e : H[i]? = some h) (hk : sget st h = some k) (hm : μ h = some (b, m)) (e' : idxH H h' = none) (hk' : sget st h' = some k') (hm' : μ h' = some (b, m')) : False := by
 have := hst.inj h h' k k' b m m' hk hk' hm hm'
 subst this
 exact idxH_none e' (mem_of_idx e)
theorem lendO {st stC stv : List (Nat × Blk)} {H : List Nat} {μ : Mu} (vw : Bool) (hls : lendSt H stv st H 0 = some stC) (w : World) (b : Nat) (ho : (cx0 (lendX cx st μ H vw) stC (muC H μ) w).O stC (muC H μ) b) : cx.O st μ b := by
 rcases ho with (ho | ⟨_, ho⟩) | ho
 · exact .inl ho
 · obtain ⟨h, k, m, _, h2, h3⟩ := own_out ho; exact .inr ⟨h, k, m, h2, h3⟩
 · obtain ⟨i, h, k, m, _, h2, h3⟩ := own_lent hls ho; exact .inr ⟨h, k, m, h2, h3⟩
theorem lendG_spec {st stC : List (Nat × Blk)} {H : List Nat} {vw : Bool} {μ : Mu} {w : World} (hst : RelSt cx μ st w) (hls : lendSt H (lendV st H vw) st H 0 = some stC) {g g' : G} {v : Value} (hv : RepV (cx.O st μ) cx.base w μ g v)
    (hg : lendG H (lendV st H vw) g = some g') : RepV ((cx0 (lendX cx st μ H vw) stC (muC H μ) w).O stC (muC H μ)) w.heap.size w (muC H μ) g' v := by
  have hO := lendO (cx := cx) (μ := μ) vw hls w
  generalize hOd : (cx0 (lendX cx st μ H vw) stC (muC H μ) w).O stC (muC H μ) = O' at hO
  have hstv : ∀ h k, sget (lendV st H vw) h = some k → vw = true ∧ idxH H h = none ∧ sget st h = some k := by
    intro h k hk
    unfold lendV at hk
    cases vw with
    | true => exact ⟨rfl, outSt_get hk⟩
    | false => cases hk
  have look : ∀ {g g' : G} {v : Value}, RepV (cx.O st μ) cx.base w μ g v → view 4 (lendV st H vw) g = some g' → RepI O' w g' v := by
    intro g g' v hv hg
    refine view_gen (fun h k hk => hst.blk h k (hstv h k hk).2.2) (fun h k b m hk hm ho => ?_) hO 4 hv hg
    obtain ⟨e0, e1, e2⟩ := hstv h k hk
    rw [← hOd] at ho
    rcases ho with (ho | ⟨ho, _⟩) | ho
    · exact (hst.out h k b m e2 hm).1 ho
    · rw [e0] at ho; cases ho
    · obtain ⟨i, h', k', m', h1, h2, h3⟩ := own_lent hls ho
      exact not_both hst h1 h2 h3 e1 e2 hm
  have imm : ∀ {g : G} {v : Value}, RepI (cx.O st μ) w g v → ∀ {g'}, lendG H (lendV st H vw) g = some g' → RepV O' w.heap.size w (muC H μ) g' v := by
    intro g v h
    induction h with
    | any v => intro g' hg; cases hg
    | val v => intro g' hg; cases hg; exact .imm (viewV_rep v)
    | nil => intro g' hg; cases hg; exact .imm .nil
    | emp a c => intro g' hg; cases hg; exact .imm (.emp a c)
    | sl n cells b off cap us h1 h2 h3 h4 h5 ih => intro g' hg; cases hg; exact .imm ((RepI.sl n cells b off cap us h1 h2 h3 h4 h5).mono (Kept.refl _ _) fun b _ hn ho => hn (hO b ho))
    | ptr cells b off us h1 h2 h3 h4 ih => intro g' hg; cases hg; exact .imm ((RepI.ptr cells b off us h1 h2 h3 h4).mono (Kept.refl _ _) fun b _ hn ho => hn (hO b ho))
    | agg cells us hl hr ih =>
      intro g' hg
      simp only [lendG, Option.map_eq_some_iff] at hg
      obtain ⟨gs', h1, rfl⟩ := hg
      obtain ⟨h2, h3⟩ := lendG_go h1
      refine .agg gs' us (by omega) fun j g v hg hv => ?_
      obtain ⟨g0, h4, h5⟩ := h3 j g hg
      exact ih j g0 v h4 hv h5
  induction hv generalizing g' with
  | imm h => exact imm h hg
  | fr h => cases hg; exact .imm (h.old.mono (Kept.refl _ _) fun b _ hn ho => hn (hO b ho))
  | loc h off b m hm =>
    simp only [lendG] at hg
    cases hi : idxH H h with
    | some i => rw [hi] at hg; cases hg; exact .loc _ _ b m (by rw [muC_at (idxH_some hi)]; exact hm)
    | none => rw [hi] at hg; exact .imm (look (.loc h off b m hm) hg)
  | onil h sz hm =>
    simp only [lendG] at hg
    cases hi : idxH H h with
    | some i => rw [hi] at hg; cases hg; exact .onil _ _ (by rw [muC_at (idxH_some hi)]; exact hm)
    | none => rw [hi] at hg; exact .imm (look (.onil h sz hm) hg)
  | osl h sz off n b m cap hm hn hc =>
    simp only [lendG] at hg
    cases hi : idxH H h with
    | some i => rw [hi] at hg; cases hg; exact .osl _ _ _ _ b m cap (by rw [muC_at (idxH_some hi)]; exact hm) hn hc
    | none => rw [hi] at hg; exact .imm (look (.osl h sz off n b m cap hm hn hc) hg)
  | ozero h sz off0 b m hm hpos =>
    simp only [lendG] at hg
    cases hi : idxH H h with
    | some i => rw [hi] at hg; cases hg; exact .ozero _ _ off0 b m (by rw [muC_at (idxH_some hi)]; exact hm) hpos
    | none => rw [hi] at hg; exact .imm (look (.ozero h sz off0 b m hm hpos) hg)
  | agg cells us hl hr ih =>
    simp only [lendG, Option.map_eq_some_iff] at hg
    obtain ⟨gs', h1, rfl⟩ := hg
    obtain ⟨h2, h3⟩ := lendG_go h1
    refine .agg gs' us (by omega) fun j g v hg hv => ?_
    obtain ⟨g0, h4, h5⟩ := h3 j g hg
    exact ih j g0 v h4 hv h5
  | tup cells us hl hr ih => cases hg
  | clo f caps us hl hr ih =>
    simp only [lendG, Option.map_eq_some_iff] at hg
    obtain ⟨gs', h1, rfl⟩ := hg
    obtain ⟨h2, h3⟩ := lendG_go h1
    refine .clo f gs' us (by omega) fun j g v hg hv => ?_
    obtain ⟨g0, h4, h5⟩ := h3 j g hg
    exact ih j g0 v h4 hv h5
  | yld h b m hm =>
    simp only [lendG] at hg
    cases hi : idxH H h with
    | some i => rw [hi] at hg; cases hg; exact .yld _ b m (by rw [muC_at (idxH_some hi)]; exact hm)
    | none => rw [hi] at hg; cases hg
theorem lend_rel {st stC : List (Nat × Blk)} {H : List Nat} {vw : Bool} {μ : Mu} {w : World} (hst : RelSt cx μ st w) (hls : lendSt H (lendV st H vw) st H 0 = some stC) (hnd : H.Nodup) :
    RelSt (cx0 (lendX cx st μ H vw) stC (muC H μ) w) (muC H μ) stC w := by
  have hO := lendO (cx := cx) (μ := μ) vw hls w
  refine { blk := ?_, inj := ?_, out := ?_, pin := fun _ _ _ _ => rfl, xlt := ?_, hb := Nat.le_refl _, os := rfl, tape := rfl, output := rfl, keep := fun _ _ _ => rfl }
  · intro j k' hk'
    obtain ⟨n, h, k, rfl, e2, e3, e4⟩ := lendSt_get hls hk'
    rw [Nat.zero_add, muC_at e2]
    have hb := hst.blk h k e3
    unfold lendB at e4
    cases hp : k.pure with
    | true =>
      rw [hp] at e4
      cases e4
      cases hm : μ h with
      | none => rw [hm] at hb; exact hb
      | some bm =>
        obtain ⟨b, m⟩ := bm
        rw [hm] at hb
        cases hl : k.lp with
        | none =>
          obtain ⟨cs, h1, h2, h3, h4, h5, h6⟩ := hb.cells hl
          refine .mk rfl ⟨cs, h1, h2, h3, (fun h => by cases h), h5, fun j g hg => ?_⟩
          obtain ⟨v, hv, hrv⟩ := h6 j g hg
          refine ⟨v, hv, ?_⟩
          unfold RepC at hrv ⊢
          simp only [hp] at hrv ⊢
          have hrv := hrv.flag (f' := false) (fun h => by cases h)
          exact RepI.mono hrv (Kept.refl _ _) fun b _ hn ho => hn (hO b ho)
        | some lp =>
          unfold RelBlk at hb
          rw [hl] at hb
          obtain ⟨D, vs, _, _, _, h4, _⟩ := hb
          rw [hp] at h4; cases h4
    | false =>
      rw [hp, cond_false] at e4
      cases hgo : lendG.go H (lendV st H vw) k.cells with
      | none => rw [hgo] at e4; cases e4
      | some cs' =>
        rw [hgo] at e4
        cases e4
        obtain ⟨q1, q2⟩ := lendG_go hgo
        cases hm : μ h with
        | none =>
          rw [hm] at hb
          obtain ⟨hb1, hb2⟩ := hb
          exact ⟨List.eq_nil_of_length_eq_zero (by simp only; rw [q1, hb1]; rfl), hb2⟩
        | some bm =>
          obtain ⟨b, m⟩ := bm
          rw [hm] at hb
          cases hl : k.lp with
          | none =>
            obtain ⟨cs, h1, h2, h3, h4, h5, h6⟩ := hb.cells hl
            refine .mk rfl ⟨cs, h1, h2, by simp only; omega, (fun h => by cases h), h5, fun j g hg => ?_⟩
            obtain ⟨g0, q3, q4⟩ := q2 j g hg
            obtain ⟨v, hv, hrv⟩ := h6 j g0 q3
            refine ⟨v, hv, ?_⟩
            unfold RepC at hrv ⊢
            simp only [hp] at hrv ⊢
            exact lendG_spec hst hls hrv q4
          | some lp =>
            unfold RelBlk at hb ⊢
            simp only [hl] at hb ⊢
            obtain ⟨D, vs, h1, h2, h3, h4, h5⟩ := hb
            refine ⟨D, vs, h1, h2, rfl, rfl, fun j t g ht hg => ?_⟩
            obtain ⟨g0, q3, q4⟩ := q2 j g hg
            obtain ⟨v, hv, hrv⟩ := h5 j t g0 ht q3
            exact ⟨v, hv, lendG_spec hst hls hrv q4⟩
  · intro j j' k1 k2 b m m' h1 h2 h3 h4
    obtain ⟨n, h, k, rfl, e2, e3, _⟩ := lendSt_get hls h1
    obtain ⟨n', h', k', rfl, e2', e3', _⟩ := lendSt_get hls h2
    rw [Nat.zero_add, muC_at e2] at h3
    rw [Nat.zero_add, muC_at e2'] at h4
    have := hst.inj h h' k k' b m m' e3 e3' h3 h4
    subst this
    have := (List.getElem?_inj (List.getElem?_eq_some_iff.1 e2).1 hnd).1 (e2.trans e2'.symm)
    subst this
    rfl
  · intro j k1 b m h1 h2
    obtain ⟨n, h, k, rfl, e2, e3, _⟩ := lendSt_get hls h1
    have hA : Own stC (muC H μ) b := ⟨_, _, _, h1, h2⟩
    rw [Nat.zero_add, muC_at e2] at h2
    refine ⟨?_, .inr hA⟩
    rintro (ho | ⟨_, ho⟩)
    · exact (hst.out h k b m e3 h2).1 ho
    · obtain ⟨h', k', m', q1, q2, q3⟩ := own_out ho
      exact not_both hst e2 e3 h2 q1 q2 q3
  · rintro b (ho | ⟨_, ho⟩)
    · have := hst.xlt b ho; have := hst.hb; show b < w.heap.size; omega
    · obtain ⟨h', k', m', q1, q2, q3⟩ := own_out ho
      exact own_lt hst ⟨h', k', m', q2, q3⟩
end
end Go.AM
/-
 AM, part Y: plain facts of partial functions.
-/
namespace Go.AM
theorem loopF_inv {σ ρ : Type} {body : σ → Option (σ ⊕ ρ)} (I : σ → Prop) (m : σ → Nat) (R : ρ → Prop)
    (hstep : ∀ x, I x → (∃ x', body x = some (.inl x') ∧ I x' ∧ m x' < m x) ∨ ∃ r, body x = some (.inr r) ∧ R r) :
    ∀ (n : Nat) (x : σ), I x → m x < n → ∃ r, loopF body n x = some r ∧ R r := by
  intro n
  induction n with
  | zero => intro x _ h; omega
  | succ n ih =>
    intro x hI hm
    rcases hstep x hI with ⟨x', h1, h2, h3⟩ | ⟨r, h1, h2⟩
    · obtain ⟨r, h4, h5⟩ := ih x' h2 (by omega)
      exact ⟨r, by simp only [loopF, h1]; exact h4, h5⟩
    · exact ⟨r, by simp only [loopF, h1], h2⟩
theorem idx_nat {α : Type} {l : List α} {i : Nat} {x : α} (h : l[i]? = some x) : idx l (i : Int) = some x := by
 unfold idx
 rw [if_pos (by omega)]
 simpa using h
theorem chk_pos {p : Prop} [Decidable p] (h : p) : chk p = some () := by unfold chk; rw [if_pos h]
theorem i64 {n : Int} (h0 : -9223372036854775808 ≤ n) (h1 : n ≤ 9223372036854775807) : IntKind.i64.wrap n = n := IntWalk.i64_in n ⟨h0, h1⟩
def foldE {σ α ρ : Type} (g : σ → α → Option (σ ⊕ ρ)) (e : σ → ρ) : σ → List α → Option ρ
 | s, [] => some (e s)
 | s, x :: r => match g s x with
  | some (.inl s') => foldE g e s' r
  | some (.inr v) => some v
  | none => none
def turn {σ τ ρ : Type} (f : σ → τ) : Option (σ ⊕ ρ) → Option (τ ⊕ ρ)
 | some (.inl s) => some (.inl (f s))
 | some (.inr r) => some (.inr r)
 | none => none
theorem loop_list {σ τ α ρ : Type} {body : τ → Option (τ ⊕ ρ)} (l : List α) (st : σ → Int → τ) (g : σ → α → Option (σ ⊕ ρ)) (e : σ → ρ)
  (hbody : ∀ (s : σ) (k : Nat) (x : α), l[k]? = some x → body (st s k) = turn (fun s' => st s' ((k + 1 : Nat) : Int)) (g s x)) (hend : ∀ s : σ, body (st s (l.length : Int)) = some (.inr (e s)))
  (n : Nat) (hn : l.length < n) (s : σ) : loopF body n (st s 0) = foldE g e s l := by
 have key : ∀ (m k n : Nat) (s : σ), m = l.length - k → k ≤ l.length → m < n → loopF body n (st s (k : Int)) = foldE g e s (l.drop k) := by
  intro m
  induction m with
  | zero =>
   intro k n s hm hk hn
   obtain rfl : k = l.length := by omega
   cases n with
   | zero => omega
   | succ n => simp only [loopF, hend, List.drop_length, foldE]
  | succ m ih =>
   intro k n s hm hk hn
   cases n with
   | zero => omega
   | succ n =>
    have hlt : k < l.length := by omega
    have hx : l[k]? = some l[k] := List.getElem?_eq_getElem hlt
    rw [List.drop_eq_getElem_cons hlt]
    simp only [loopF, hbody s k _ hx, foldE]
    cases hg : g s l[k] with
    | none => simp only [turn]
    | some o =>
     cases o with
     | inl s' => simp only [turn]; exact ih (k + 1) n s' (by omega) (by omega) (by omega)
     | inr v => simp only [turn]
 have := key l.length 0 n s (by omega) (by omega) hn
 simpa using this
theorem wrap_succ {k n : Nat} (h : k < n) (hn : n ≤ 9223372036854775807) : IntKind.i64.wrap ((k : Int) + 1) = ((k + 1 : Nat) : Int) := by
 rw [i64 (by omega) (by omega)]; omega
theorem get_lt {α : Type} {l : List α} {k : Nat} {x : α} (h : l[k]? = some x) : k < l.length := (List.getElem?_eq_some_iff.1 h).1
theorem dec_lt {α : Type} {l : List α} {k : Nat} {x : α} (h : l[k]? = some x) : decide ((k : Int) < (l.length : Int)) = true := by have := get_lt h; simp; omega
theorem dec_end {α : Type} (l : List α) : decide ((l.length : Int) < (l.length : Int)) = false := by simp
section
variable {α : Type} [DecidableEq α]
theorem indexP_loop {β : Type} (s : List β) (f : β → Option Bool) (p : β → Bool) (hf : ∀ x, f x = some (p x)) (h63 : s.length ≤ 9223372036854775807) (n : Nat) (hn : s.length < n) :
    ∃ r, loopF (fun i : Int => cond (decide (i < (List.length s : Int))) ((idx s i).bind fun x2 => (f x2).bind fun r3 => cond r3 (some (.inr (Ex.ret i))) (some (.inl (IntKind.i64.wrap (i + 1))))) (some (.inr (.brk ())))) n 0 = some r ∧
      (match r with | .brk _ => s.any p = false | .ret i => 0 ≤ i ∧ s.any p = true) := by
  refine loopF_inv (fun i : Int => ∃ k : Nat, i = (k : Int) ∧ k ≤ s.length ∧ (s.take k).any p = false) (fun i : Int => s.length - i.toNat) _ ?_ n 0 ⟨0, rfl, by omega, by simp⟩ (by simpa using hn)
  rintro i ⟨k, rfl, hk, hv⟩
  by_cases h : k < s.length
  · have hx : s[k]? = some s[k] := List.getElem?_eq_getElem h
    cases hv' : p s[k] with
    | true =>
      right
      refine ⟨.ret k, ?_, by omega, ?_⟩
      · simp only [dec_lt hx, cond_true, idx_nat hx, Option.bind_some, hf, hv']
      · rw [List.any_eq_true]; exact ⟨s[k], List.getElem_mem h, hv'⟩
    | false =>
      left
      refine ⟨((k + 1 : Nat) : Int), ?_, ⟨k + 1, rfl, by omega, ?_⟩, by simp only [Int.toNat_natCast]; omega⟩
      · simp only [dec_lt hx, cond_true, idx_nat hx, Option.bind_some, wrap_succ h h63, hf, hv', cond_false]
      · rw [List.take_add_one, hx]
        simp only [Option.toList_some, List.any_append, List.any_cons, List.any_nil, hv, hv', Bool.or_self]
  · right
    obtain rfl : k = s.length := by omega
    refine ⟨.brk (), by simp only [dec_end, cond_false], ?_⟩
    simpa using hv
end
end Go.AM
/-
 AM, part BA: what a callee hands back of the blocks that were lent to it.
-/
namespace Go.AM
def keysHas : List (Nat × Blk) → Nat → Bool
 | [], _ => false
 | (j, _) :: r, x => Nat.beq j x || keysHas r x
theorem keysHas_of {st : List (Nat × Blk)} {j : Nat} {k : Blk} (h : sget st j = some k) : keysHas st j = true := by
 induction st with
 | nil => cases h
 | cons x r ih =>
  obtain ⟨y, k'⟩ := x
  simp only [sget, keysHas, Bool.or_eq_true] at h ⊢
  cases hb : Nat.beq y j with
  | true => exact .inl rfl
  | false => rw [hb] at h; exact .inr (ih h)
theorem keysHas_get {st : List (Nat × Blk)} {j : Nat} (h : keysHas st j = true) : ∃ k, sget st j = some k := by
 induction st with
 | nil => cases h
 | cons x r ih =>
  obtain ⟨y, k'⟩ := x
  simp only [sget, keysHas, Bool.or_eq_true] at h ⊢
  cases hb : Nat.beq y j with
  | true => exact ⟨k', rfl⟩
  | false => rw [hb] at h; exact ih (h.resolve_left (fun h => by cases h))
def bkH : List (Nat × Blk) → List Nat → Nat → Option Nat
 | (j, _) :: r, h :: hs, x => bif Nat.beq j x then some h else bkH r hs x
 | _, _, _ => none
def bkI : List (Nat × Blk) → List Nat → Nat → Option Nat
 | (j, _) :: r, h :: hs, y => bif Nat.beq h y then some j else bkI r hs y
 | _, _, _ => none
def renG (vw : Bool) (f : Nat → Option Nat) : G → Option G
 | .loc h off => (f h).map fun x => .loc x off
 | .osl h sz off m => (f h).map fun x => .osl x sz off m
 | .yld h => (f h).map .yld
 | .agg gs => (go gs).map .agg
 | .tup gs => (go gs).map .tup
 | .clo g gs => (go gs).map (.clo g)
 | .val v => some (.val v)
 | .fr g => some (.fr g)
 | .sl n cs => bif vw then none else some (.sl n cs)
 | .ptr cs => bif vw then none else some (.ptr cs)
 | .any => some .any
where go : List G → Option (List G)
 | [] => some []
 | g :: r => match renG vw f g, go r with
  | some g', some r' => some (g' :: r')
  | _, _ => none
theorem renG_go {vw : Bool} {f : Nat → Option Nat} : ∀ {gs gs' : List G}, renG.go vw f gs = some gs' → gs'.length = gs.length ∧ ∀ (j : Nat) (g' : G), gs'[j]? = some g' → ∃ g, gs[j]? = some g ∧ renG vw f g = some g'
 | [], _, h => by cases h; exact ⟨rfl, fun j g h => by simp at h⟩
 | g :: r, gs', h => by
  simp only [renG.go] at h
  cases h1 : renG vw f g with
  | none => rw [h1] at h; cases h
  | some g1 =>
   rw [h1] at h
   cases h2 : renG.go vw f r with
   | none => rw [h2] at h; cases h
   | some r1 =>
    rw [h2] at h
    cases h
    obtain ⟨h3, h4⟩ := renG_go h2
    refine ⟨by simp [h3], fun j g' hg' => ?_⟩
    cases j with
    | zero => cases hg'; exact ⟨g, rfl, h1⟩
    | succ j => exact h4 j g' hg'
def renB (vw : Bool) (f : Nat → Option Nat) (k : Blk) : Option Blk :=
 bif k.pure then bif vw && !k.fresh then none else some k else match renG.go vw f k.cells with
  | some cs => some { k with cells := cs }
  | none => none
def mineOf (st : List (Nat × Blk)) (h : Nat) : Bool := match sget st h with
 | some k => k.mine
 | none => false
def mineAll (st st' : List (Nat × Blk)) : List Nat → Nat → Bool
 | [], _ => true
 | h :: r, i => (match sget st h with
  | some k => k.mine || (k.lp.isSome && keysHas st' (1000 + i))
  | none => false) && mineAll st st' r (i + 1)
theorem mineAll_at {st st' : List (Nat × Blk)} : ∀ {r : List Nat} {i : Nat}, mineAll st st' r i = true → ∀ {n h : Nat} {k : Blk}, r[n]? = some h → sget st h = some k → k.mine = true ∨ keysHas st' (1000 + (i + n)) = true
 | [], _, _, _, _, _, e, _ => by cases e
 | x :: r, i, ha, n, h, k, e, hk => by
  simp only [mineAll, Bool.and_eq_true] at ha
  cases n with
  | zero =>
   cases e
   rw [hk] at ha
   simp only [Bool.or_eq_true, Bool.and_eq_true] at ha
   rcases ha.1 with h1 | h1
   · exact .inl h1
   · exact .inr h1.2
  | succ n =>
   have := mineAll_at ha.2 (n := n) (by simpa using e) hk
   rw [show i + 1 + n = i + (n + 1) by omega] at this
   exact this
def mineBk (A : Bool) (st : List (Nat × Blk)) (j h : Nat) (lp : Option Lp) (k : Blk) : Blk := bif lp.isNone then bif pinned j then { k with mine := mineOf st h } else { k with mine := k.mine || A } else k
def backSt (vw : Bool) (f : Nat → Option Nat) (A : Bool) (st : List (Nat × Blk)) : List (Nat × Blk) → List Nat → Option (List (Nat × Blk))
 | [], [] => some []
 | (j, k) :: r, h :: hs => match renB vw f k, backSt vw f A st r hs with
  | some k', some r' => some ((h, mineBk A st j h k.lp k') :: r')
  | _, _ => none
 | _, _ => none
def hAt (H : List Nat) (i h : Nat) : Bool := match H[i]? with
 | some x => Nat.beq x h
 | none => false
theorem hAt_eq {H : List Nat} {i h : Nat} (e : hAt H i h = true) : H[i]? = some h := by
 unfold hAt at e
 cases hx : H[i]? with
 | none => rw [hx] at e; cases e
 | some x => rw [hx] at e; rw [Nat.eq_of_beq_eq_true e]
def bkOk (s : St) (H : List Nat) : List (Nat × Blk) → List Nat → Bool
 | [], [] => true
 | (j, _) :: r, h :: hs => !(keysHas r j) && (!(hs.contains h) && ((bif pinned j then hAt H (j - 1000) h else Nat.blt h 1000 && ((idxH H h).isSome || fresh s h)) && bkOk s H r hs))
 | _, _ => false
def deads (st' : List (Nat × Blk)) : List Nat → Nat → List Nat
 | [], _ => []
 | h :: r, i => bif keysHas st' (1000 + i) then deads st' r (i + 1) else h :: deads st' r (i + 1)
theorem deads_mem {st' : List (Nat × Blk)} : ∀ {r : List Nat} {i h : Nat}, h ∈ r → h ∉ deads st' r i → ∃ n, r[n]? = some h ∧ keysHas st' (1000 + (i + n)) = true
  | [], _, _, hm, _ => by cases hm
  | x :: r, i, h, hm, hn => by
    simp only [deads] at hn
    cases hb : keysHas st' (1000 + i) with
    | true =>
      rw [hb] at hn
      rcases List.mem_cons.1 hm with rfl | hm
      · exact ⟨0, rfl, hb⟩
      · obtain ⟨n, h1, h2⟩ := deads_mem hm hn
        exact ⟨n + 1, h1, by rw [show 1000 + (i + (n + 1)) = 1000 + (i + 1 + n) by omega]; exact h2⟩
    | false =>
      rw [hb] at hn
      simp only [cond_false, List.mem_cons, not_or] at hn
      rcases List.mem_cons.1 hm with rfl | hm
      · exact absurd rfl hn.1
      · obtain ⟨n, h1, h2⟩ := deads_mem hm hn.2
        exact ⟨n + 1, h1, by rw [show 1000 + (i + (n + 1)) = 1000 + (i + 1 + n) by omega]; exact h2⟩
def anyH : List Nat → G → Bool
 | [], _ => false
 | h :: r, g => g.hasH h || anyH r g
theorem anyH_false : ∀ {ds : List Nat} {g : G}, anyH ds g = false → ∀ h ∈ ds, g.hasH h = false
 | [], _, _, _, h => by cases h
 | x :: r, g, e, h, hm => by
  simp only [anyH, Bool.or_eq_false_iff] at e
  rcases List.mem_cons.1 hm with rfl | hm
  · exact e.1
  · exact anyH_false e.2 h hm
def deadG (ds : List Nat) (g : G) : G := bif anyH ds g then .any else g
def deadFr (ds : List Nat) : List (Nat × G) → List (Nat × G)
 | [] => []
 | (t, g) :: r => (t, deadG ds g) :: deadFr ds r
def deadB (ds : List Nat) (k : Blk) : Blk := bif k.pure then k else { k with cells := k.cells.map (deadG ds) }
def deadSt (ds : List Nat) : List (Nat × Blk) → List (Nat × Blk)
 | [] => []
 | (h, k) :: r => (h, deadB ds k) :: deadSt ds r
theorem get_deadFr {ds : List Nat} {fr : List (Nat × G)} {t : Nat} {g : G} (hg : get (deadFr ds fr) t = some g) : ∃ g0, get fr t = some g0 ∧ g = deadG ds g0 := by
 induction fr with
 | nil => cases hg
 | cons x r ih =>
  obtain ⟨k, g'⟩ := x
  simp only [deadFr, get_cons] at hg ⊢
  cases hb : Nat.beq k t with
  | true => rw [hb] at hg; cases hg; exact ⟨g', rfl, rfl⟩
  | false => rw [hb] at hg; exact ih hg
theorem sget_deadSt {ds : List Nat} {st : List (Nat × Blk)} {t : Nat} {k : Blk} (hg : sget (deadSt ds st) t = some k) : ∃ k0, sget st t = some k0 ∧ k = deadB ds k0 := by
 induction st with
 | nil => cases hg
 | cons x r ih =>
  obtain ⟨y, k'⟩ := x
  simp only [deadSt, sget_cons] at hg ⊢
  cases hb : Nat.beq y t with
  | true => rw [hb] at hg; cases hg; exact ⟨k', rfl, rfl⟩
  | false => rw [hb] at hg; exact ih hg
theorem deadG_spec {O : Nat → Prop} {base : Nat} {w : World} {μ μ' : Mu} {ds : List Nat} {g : G} {v : Value} (hv : RepV O base w μ g v) (hμ : ∀ k, k ∉ ds → g.hasH k = true → μ' k = μ k) : RepV O base w μ' (deadG ds g) v := by
 unfold deadG
 cases hh : anyH ds g with
 | true => exact .imm (.any _)
 | false => exact hv.remap fun k hk => hμ k (fun hm => by rw [anyH_false hh k hm] at hk; cases hk) hk
theorem RelBlk.dead {O : Nat → Prop} {base : Nat} {w : World} {μ μ' : Mu} {k : Blk} {x : Option (Nat × Nat)} (hb : RelBlk O base w μ k x) (ds : List Nat) (hμ : k.pure = false → ∀ g ∈ k.cells, ∀ y, y ∉ ds → g.hasH y = true → μ' y = μ y) : RelBlk O base w μ' (deadB ds k) x := by
 unfold deadB
 cases hp : k.pure with
 | true => exact hb.remap fun hp' => by rw [hp] at hp'; cases hp'
 | false =>
  have hμ := hμ hp
  simp only [cond_false]
  cases x with
  | none => obtain ⟨h1, h2⟩ := hb; exact ⟨by simp [h1], h2⟩
  | some bm =>
   obtain ⟨b, m⟩ := bm
   cases hl : k.lp with
   | none =>
    obtain ⟨cs1, h4, h5, h6, h7, h8, h9⟩ := hb.cells hl
    refine .mk rfl ⟨cs1, h4, h5, by simpa using h6, h7, h8, fun j g hg => ?_⟩
    dsimp only at hg
    rw [List.getElem?_map] at hg
    cases hg0 : k.cells[j]? with
    | none => rw [hg0] at hg; cases hg
    | some g0 =>
     rw [hg0] at hg
     cases hg
     obtain ⟨v, hv, hrv⟩ := h9 j g0 hg0
     refine ⟨v, hv, ?_⟩
     unfold RepC at hrv ⊢
     rw [hp] at hrv
     simp only
     exact deadG_spec hrv (hμ g0 (List.mem_of_getElem? hg0))
   | some lp =>
    unfold RelBlk at hb ⊢
    simp only [hl] at hb ⊢
    obtain ⟨D, vs, h1, h2, h3, h4, h5⟩ := hb
    refine ⟨D, vs, h1, h2, h3, rfl, fun j t g ht hg => ?_⟩
    dsimp only at hg
    rw [List.getElem?_map] at hg
    cases hg0 : k.cells[j]? with
    | none => rw [hg0] at hg; cases hg
    | some g0 =>
     rw [hg0] at hg
     cases hg
     obtain ⟨v, hv, hrv⟩ := h5 j t g0 ht hg0
     exact ⟨v, hv, deadG_spec hrv (hμ g0 (List.mem_of_getElem? hg0))⟩
def backS (vw : Bool) (s : St) (H : List Nat) (st' : List (Nat × Blk)) (bk : List Nat) : Option St :=
 bif bkOk s H st' bk && s.df.all (fun g => !(anyH (deads st' H 0) g)) then match backSt vw (bkH st' bk) (mineAll s.st st' H 0) s.st st' bk with
  | some sb => some { fr := deadFr (deads st' H 0) s.fr, st := sb ++ deadSt (deads st' H 0) (outSt H s.st), df := s.df }
  | none => none
 else none
theorem sget_append {a b : List (Nat × Blk)} {h : Nat} : sget (a ++ b) h = (sget a h).or (sget b h) := by
 induction a with
 | nil => rfl
 | cons x r ih =>
  obtain ⟨y, k⟩ := x
  simp only [List.cons_append, sget]
  cases Nat.beq y h with
  | true => rfl
  | false => exact ih
theorem backSt_get {vw A : Bool} {f : Nat → Option Nat} {st : List (Nat × Blk)} {s : St} {H : List Nat} : ∀ {st' : List (Nat × Blk)} {bk : List Nat} {sb : List (Nat × Blk)}, backSt vw f A st st' bk = some sb → bkOk s H st' bk = true →
  ∀ {h : Nat} {k2 : Blk}, sget sb h = some k2 → ∃ j k' k1, sget st' j = some k' ∧ bkI st' bk h = some j ∧ renB vw f k' = some k1 ∧ k2 = mineBk A st j h k'.lp k1
 | [], [], _, e, _, _, _, hg => by cases e; cases hg
 | [], _ :: _, _, e, _, _, _, _ => by cases e
 | _ :: _, [], _, e, _, _, _, _ => by cases e
 | (j, k) :: r, x :: hs, sb, e, ok, h, k2, hg => by
  simp only [backSt] at e
  cases h1 : renB vw f k with
  | none => rw [h1] at e; cases e
  | some k1 =>
   rw [h1] at e
   cases h2 : backSt vw f A st r hs with
   | none => rw [h2] at e; cases e
   | some r' =>
    rw [h2] at e
    cases e
    simp only [bkOk, Bool.and_eq_true, Bool.not_eq_true'] at ok
    obtain ⟨o1, o2, o3, o4⟩ := ok
    simp only [sget] at hg
    cases hb : Nat.beq x h with
    | true =>
     rw [hb] at hg
     cases hg
     have := Nat.eq_of_beq_eq_true hb
     subst this
     exact ⟨j, k, k1, sget_cons_same _ _ _, by simp only [bkI, Nat.beq_refl, cond_true], h1, rfl⟩
    | false =>
     rw [hb] at hg
     obtain ⟨j', k', k1', q1, q2, q3, q4⟩ := backSt_get h2 o4 hg
     refine ⟨j', k', k1', ?_, by simp only [bkI, hb, cond_false]; exact q2, q3, q4⟩
     rw [sget_cons_other _ _ (fun e => by subst e; rw [keysHas_of q1] at o1; cases o1)]
     exact q1
theorem bkOk_row {s : St} {H : List Nat} : ∀ {st' : List (Nat × Blk)} {bk : List Nat}, bkOk s H st' bk = true → ∀ {h j : Nat}, bkI st' bk h = some j →
  keysHas st' j = true ∧ h ∈ bk ∧ bkH st' bk j = some h ∧ ((pinned j = true ∧ H[j - 1000]? = some h) ∨ (pinned j = false ∧ Nat.blt h 1000 = true ∧ (h ∈ H ∨ fresh s h = true)))
 | [], [], _, _, _, e => by cases e
 | [], _ :: _, ok, _, _, _ => by cases ok
 | _ :: _, [], ok, _, _, _ => by cases ok
 | (j, k) :: r, x :: hs, ok, h, j', e => by
  simp only [bkOk, Bool.and_eq_true, Bool.not_eq_true'] at ok
  obtain ⟨o1, o2, o3, o4⟩ := ok
  simp only [bkI] at e
  cases hb : Nat.beq x h with
  | true =>
   rw [hb] at e
   cases e
   have := Nat.eq_of_beq_eq_true hb
   subst this
   refine ⟨by simp [keysHas, Nat.beq_refl], List.mem_cons_self, by simp only [bkH, Nat.beq_refl, cond_true], ?_⟩
   cases hp : pinned j with
   | true => rw [hp] at o3; exact .inl ⟨rfl, hAt_eq o3⟩
   | false =>
    rw [hp] at o3
    simp only [cond_false, Bool.and_eq_true, Bool.or_eq_true] at o3
    refine .inr ⟨rfl, o3.1, o3.2.imp (fun h => ?_) id⟩
    obtain ⟨i, hi⟩ := Option.isSome_iff_exists.1 h
    exact mem_of_idx (idxH_some hi)
  | false =>
   rw [hb] at e
   obtain ⟨q1, q2, q3, q4⟩ := bkOk_row o4 e
   refine ⟨by simp [keysHas, q1], List.mem_cons_of_mem _ q2, ?_, q4⟩
   simp only [bkH]
   have : Nat.beq j j' = false := by
    cases hb2 : Nat.beq j j' with
    | false => rfl
    | true => have := Nat.eq_of_beq_eq_true hb2; subst this; rw [q1] at o1; cases o1
   rw [this]
   exact q3
theorem bkH_row {s : St} {H : List Nat} : ∀ {st' : List (Nat × Blk)} {bk : List Nat}, bkOk s H st' bk = true → ∀ {j h : Nat}, bkH st' bk j = some h → h ∈ bk ∧ bkI st' bk h = some j
 | [], [], _, _, _, e => by cases e
 | [], _ :: _, ok, _, _, _ => by cases ok
 | _ :: _, [], ok, _, _, _ => by cases ok
 | (j, k) :: r, x :: hs, ok, j', h, e => by
  simp only [bkOk, Bool.and_eq_true, Bool.not_eq_true'] at ok
  obtain ⟨o1, o2, o3, o4⟩ := ok
  simp only [bkH] at e
  cases hb : Nat.beq j j' with
  | true =>
   rw [hb] at e
   cases e
   have := Nat.eq_of_beq_eq_true hb
   subst this
   exact ⟨List.mem_cons_self, by simp only [bkI, Nat.beq_refl, cond_true]⟩
  | false =>
   rw [hb] at e
   obtain ⟨q1, q2⟩ := bkH_row o4 e
   refine ⟨List.mem_cons_of_mem _ q1, ?_⟩
   simp only [bkI]
   have : Nat.beq x h = false := by
    cases hb2 : Nat.beq x h with
    | false => rfl
    | true => have := Nat.eq_of_beq_eq_true hb2; subst this; simp at o2; exact absurd q1 o2
   rw [this]
   exact q2
theorem bkH_dom {s : St} {H : List Nat} : ∀ {st' : List (Nat × Blk)} {bk : List Nat}, bkOk s H st' bk = true → ∀ {j : Nat}, keysHas st' j = true → ∃ h, bkH st' bk j = some h
 | [], [], _, _, e => by cases e
 | [], _ :: _, ok, _, _ => by cases ok
 | _ :: _, [], ok, _, _ => by cases ok
 | (j, k) :: r, x :: hs, ok, j', e => by
  simp only [bkOk, Bool.and_eq_true, Bool.not_eq_true'] at ok
  simp only [keysHas, Bool.or_eq_true] at e
  simp only [bkH]
  cases hb : Nat.beq j j' with
  | true => exact ⟨x, rfl⟩
  | false => rw [hb] at e; exact bkH_dom ok.2.2.2 (e.resolve_left fun h => by cases h)
def muB (μ μ'' : Mu) (st' : List (Nat × Blk)) (bk : List Nat) : Mu := fun y => match bkI st' bk y with
 | some j => μ'' j
 | none => μ y
section
variable {P : Program} {N : Nat} {cx : Cx} {s : St}
theorem back_rel {a : Act} {w w' : World} {μ μ'' : Mu} {H : List Nat} {vw : Bool} {stC st' : List (Nat × Blk)} {bk : List Nat} {s2 : St} (hr : Rel N cx μ s a w) (hls : lendSt H (lendV s.st H vw) s.st H 0 = some stC) (_hnd : H.Nodup)
    (hC : RelSt (cx0 (lendX cx s.st μ H vw) stC (muC H μ) w) μ'' st' w') (hb : backS vw s H st' bk = some s2) :
    Rel N cx (muB μ μ'' st' bk) s2 a w' ∧
    (∀ g g' v, RepV ((cx0 (lendX cx s.st μ H vw) stC (muC H μ) w).O st' μ'') w.heap.size w' μ'' g v → renG vw (bkH st' bk) g = some g' → RepV (cx.O s2.st (muB μ μ'' st' bk)) cx.base w' (muB μ μ'' st' bk) g' v) ∧
    (∀ W : List Nat, (∀ h ∈ H, h ∈ W) → Step W s.st μ s2.st (muB μ μ'' st' bk) w w') ∧ (∀ y, y ∈ H → y ∉ deads st' H 0 → muB μ μ'' st' bk y = μ y) := by
  unfold backS at hb
  cases hok : bkOk s H st' bk && s.df.all (fun g => !(anyH (deads st' H 0) g)) with
  | false => rw [hok] at hb; cases hb
  | true =>
  rw [hok, cond_true] at hb
  simp only [Bool.and_eq_true] at hok
  obtain ⟨hok, hdf⟩ := hok
  cases hbs : backSt vw (bkH st' bk) (mineAll s.st st' H 0) s.st st' bk with
  | none => rw [hbs] at hb; cases hb
  | some sb =>
  rw [hbs] at hb
  cases hb
  have hst := hr.st
  -- handles that live on
  have alive : ∀ y, y ∉ deads st' H 0 → (bkI st' bk y = none ∨ y ∈ H ∨ fresh s y = false) → muB μ μ'' st' bk y = μ y := by
    intro y hy hn
    unfold muB
    by_cases hyH : y ∈ H
    · obtain ⟨n, e1, e2⟩ := deads_mem hyH hy
      rw [Nat.zero_add] at e2
      obtain ⟨h', e3⟩ := bkH_dom hok e2
      obtain ⟨_, e4⟩ := bkH_row hok e3
      have e5 := (bkOk_row hok e4).2.2.2
      have e6 : h' = y := by
        rcases e5 with ⟨_, e5⟩ | ⟨e5, _⟩
        · rw [show 1000 + n - 1000 = n by omega, e1] at e5; exact (Option.some.inj e5).symm
        · rw [pinned_add] at e5; cases e5
      subst e6
      rw [e4]
      obtain ⟨k, hk⟩ := keysHas_get e2
      have := hC.pin _ k hk (pinned_add n)
      simp only
      rw [this]
      exact muC_at e1
    · cases hI : bkI st' bk y with
      | none => rfl
      | some j =>
        rcases (bkOk_row hok hI).2.2.2 with ⟨_, e⟩ | ⟨_, _, e | e⟩
        · exact absurd (mem_of_idx e) hyH
        · exact absurd e hyH
        · rcases hn with hn | hn | hn
          · rw [hI] at hn; cases hn
          · exact absurd hn hyH
          · rw [hn] at e; cases e
  have notfr : ∀ y t g, get s.fr t = some g → g.hasH y = true → fresh s y = false := by
    intro y t g hg hh
    cases hf : fresh s y with
    | false => rfl
    | true => rw [frNo_get (fresh_spec hf).2.1 hg] at hh; cases hh
  have notst : ∀ y x k g, sget s.st x = some k → k.pure = false → g ∈ k.cells → g.hasH y = true → fresh s y = false := by
    intro y x k g hk hp hg hh
    cases hf : fresh s y with
    | false => rfl
    | true => rw [stNo_get (fresh_spec hf).2.2.1 hk hp hg] at hh; cases hh
  -- what the callee kept
  have hsz : w.heap.size ≤ w'.heap.size := hC.hb
  have hkeep : ∀ b, b < w.heap.size → ¬ Own stC (muC H μ) b → w'.heap[b]? = w.heap[b]? := fun b hb hn => hC.keep b hb hn
  have hown : ∀ b, Own stC (muC H μ) b → Own s.st μ b := fun b ho => by obtain ⟨i, h, k, m, _, h2, h3⟩ := own_lent hls ho; exact ⟨h, k, m, h2, h3⟩
  have hkept : Kept (cx.O s.st μ) w w' := ⟨hsz, fun b hb hn => hkeep b hb fun ho => hn (.inr (hown b ho))⟩
  -- the rows of the new state
  have row : ∀ y k2, sget (sb ++ deadSt (deads st' H 0) (outSt H s.st)) y = some k2 →
      (∃ j k' k1, sget st' j = some k' ∧ bkI st' bk y = some j ∧ renB vw (bkH st' bk) k' = some k1 ∧ k2 = mineBk (mineAll s.st st' H 0) s.st j y k'.lp k1) ∨
      (bkI st' bk y = none ∧ ∃ k0, idxH H y = none ∧ sget s.st y = some k0 ∧ k2 = deadB (deads st' H 0) k0) := by
    intro y k2 h
    rw [sget_append] at h
    cases hs : sget sb y with
    | some k3 =>
      rw [hs] at h
      cases h
      exact .inl (backSt_get hbs hok hs)
    | none =>
      rw [hs, Option.none_or] at h
      obtain ⟨k0, h1, h2⟩ := sget_deadSt h
      obtain ⟨h3, h4⟩ := outSt_get h1
      refine .inr ⟨?_, k0, h3, h4, h2⟩
      cases hI : bkI st' bk y with
      | none => rfl
      | some j =>
        rcases (bkOk_row hok hI).2.2.2 with ⟨_, e⟩ | ⟨_, _, e | e⟩
        · exact absurd (mem_of_idx e) (idxH_none h3)
        · exact absurd e (idxH_none h3)
        · rw [(fresh_spec e).1] at h4; cases h4
  have notdead : ∀ {y}, idxH H y = none → y ∉ deads st' H 0 := by
    intro y hy hm
    have : ∀ (r : List Nat) (i : Nat), y ∈ deads st' r i → y ∈ r := by
      intro r
      induction r with
      | nil => intro i h; cases h
      | cons x r ih =>
        intro i h
        simp only [deads] at h
        cases hb : keysHas st' (1000 + i) with
        | true => rw [hb] at h; exact List.mem_cons_of_mem _ (ih _ h)
        | false =>
          rw [hb] at h
          rcases List.mem_cons.1 h with rfl | h
          · exact List.mem_cons_self
          · exact List.mem_cons_of_mem _ (ih _ h)
    exact idxH_none hy (this H 0 hm)
  -- where the new blocks lie
  have whr : ∀ y k2 b m, sget (sb ++ deadSt (deads st' H 0) (outSt H s.st)) y = some k2 → muB μ μ'' st' bk y = some (b, m) →
      (∃ j k', bkI st' bk y = some j ∧ sget st' j = some k' ∧ μ'' j = some (b, m)) ∨ (bkI st' bk y = none ∧ idxH H y = none ∧ ∃ k0, sget s.st y = some k0 ∧ μ y = some (b, m)) := by
    intro y k2 b m h1 h2
    rcases row y k2 h1 with ⟨j, k', k1, e1, e2, _, _⟩ | ⟨e0, k0, e1, e2, _⟩
    · left
      refine ⟨j, k', e2, e1, ?_⟩
      unfold muB at h2
      rw [e2] at h2
      exact h2
    · right
      refine ⟨e0, e1, k0, e2, ?_⟩
      unfold muB at h2
      rw [e0] at h2
      exact h2
  have hO2 : ∀ b, cx.O (sb ++ deadSt (deads st' H 0) (outSt H s.st)) (muB μ μ'' st' bk) b → cx.X b ∨ Own st' μ'' b ∨ Own (outSt H s.st) μ b := by
    rintro b (ho | ⟨y, k2, m, h1, h2⟩)
    · exact .inl ho
    · rcases whr y k2 b m h1 h2 with ⟨j, k', e1, e2, e3⟩ | ⟨e0, e1, k0, e2, e3⟩
      · exact .inr (.inl ⟨j, k', m, e2, e3⟩)
      · exact .inr (.inr ⟨y, k0, m, outSt_of e1 e2, e3⟩)
  have outlt : ∀ b, Own (outSt H s.st) μ b → b < w.heap.size := fun b ho => by
    obtain ⟨h, k, m, _, h2, h3⟩ := own_out ho
    exact own_lt hst ⟨h, k, m, h2, h3⟩
  have hOO : ∀ b, b < w.heap.size → ¬ cx.O s.st μ b → ¬ cx.O (sb ++ deadSt (deads st' H 0) (outSt H s.st)) (muB μ μ'' st' bk) b := by
    intro b hb hn ho
    rcases hO2 b ho with ho | ⟨j, k', m, h1, h2⟩ | ho
    · exact hn (.inl ho)
    · rcases (hC.out j k' b m h1 h2).2 with h3 | h3
      · exact absurd hb (by show ¬ b < w.heap.size; exact Nat.not_lt.2 h3)
      · exact hn (.inr (hown b h3))
    · obtain ⟨h, k, m, _, h2, h3⟩ := own_out ho
      exact hn (.inr ⟨h, k, m, h2, h3⟩)
  -- the callee's readings in the caller's words
  have impo : ∀ (f : Bool) {g : G} {v : Value}, (vw = true → f = true) → RepI (bif f then Old ((cx0 (lendX cx s.st μ H vw) stC (muC H μ) w).O st' μ'') w.heap.size else (cx0 (lendX cx s.st μ H vw) stC (muC H μ) w).O st' μ'') w' g v →
      RepI (bif f then Old (cx.O (sb ++ deadSt (deads st' H 0) (outSt H s.st)) (muB μ μ'' st' bk)) cx.base else cx.O (sb ++ deadSt (deads st' H 0) (outSt H s.st)) (muB μ μ'' st' bk)) w' g v := by
    intro f g v hf h
    refine h.mono (Kept.refl _ _) fun b _ hn ho => hn ?_
    have key : ∀ {b}, cx.O (sb ++ deadSt (deads st' H 0) (outSt H s.st)) (muB μ μ'' st' bk) b → (vw = false ∨ w.heap.size ≤ b) → (cx0 (lendX cx s.st μ H vw) stC (muC H μ) w).O st' μ'' b := by
      intro b ho hv
      rcases hO2 b ho with ho | ho | ho
      · exact .inl (.inl ho)
      · exact .inr ho
      · rcases hv with hv | hv
        · exact .inl (.inr ⟨hv, ho⟩)
        · have := outlt b ho; omega
    cases f with
    | false => exact key ho (.inl (by cases vw with | false => rfl | true => cases hf rfl))
    | true =>
      rcases ho with ho | ho
      · exact .inl (by have := hst.hb; show b < w.heap.size; omega)
      · by_cases hlt : b < w.heap.size
        · exact .inl hlt
        · exact .inr (key ho (.inr (by omega)))
  have ren : ∀ {g g' : G} {v : Value}, RepV ((cx0 (lendX cx s.st μ H vw) stC (muC H μ) w).O st' μ'') w.heap.size w' μ'' g v → renG vw (bkH st' bk) g = some g' →
      RepV (cx.O (sb ++ deadSt (deads st' H 0) (outSt H s.st)) (muB μ μ'' st' bk)) cx.base w' (muB μ μ'' st' bk) g' v := by
    intro g g' v hv hg
    have hmu : ∀ {j h}, bkH st' bk j = some h → muB μ μ'' st' bk h = μ'' j := by
      intro j h e
      unfold muB
      rw [(bkH_row hok e).2]
    have imm : ∀ {g : G} {v : Value}, RepI ((cx0 (lendX cx s.st μ H vw) stC (muC H μ) w).O st' μ'') w' g v → ∀ {g'}, renG vw (bkH st' bk) g = some g' →
        RepV (cx.O (sb ++ deadSt (deads st' H 0) (outSt H s.st)) (muB μ μ'' st' bk)) cx.base w' (muB μ μ'' st' bk) g' v := by
      intro g v h
      induction h with
      | any v => intro g' hg; cases hg; exact .imm (.any _)
      | val v => intro g' hg; cases hg; exact .imm (.val _)
      | nil =>
        intro g' hg
        simp only [renG] at hg
        cases vw with
        | true => cases hg
        | false => cases hg; exact .imm .nil
      | emp a c =>
        intro g' hg
        simp only [renG] at hg
        cases vw with
        | true => cases hg
        | false => cases hg; exact .imm (.emp a c)
      | sl n cells b off cap us h1 h2 h3 h4 h5 ih =>
        intro g' hg
        simp only [renG] at hg
        cases hvw : vw with
        | true => rw [hvw] at hg; cases hg
        | false => rw [hvw] at hg; cases hg; exact .imm (impo false (fun h => by rw [hvw] at h; cases h) (.sl n cells b off cap us h1 h2 h3 h4 h5))
      | ptr cells b off us h1 h2 h3 h4 ih =>
        intro g' hg
        simp only [renG] at hg
        cases hvw : vw with
        | true => rw [hvw] at hg; cases hg
        | false => rw [hvw] at hg; cases hg; exact .imm (impo false (fun h => by rw [hvw] at h; cases h) (.ptr cells b off us h1 h2 h3 h4))
      | agg cells us hl hr ih =>
        intro g' hg
        simp only [renG, Option.map_eq_some_iff] at hg
        obtain ⟨gs', h1, rfl⟩ := hg
        obtain ⟨h2, h3⟩ := renG_go h1
        refine .agg gs' us (by omega) fun j g v hg hv => ?_
        obtain ⟨g0, h4, h5⟩ := h3 j g hg
        exact ih j g0 v h4 hv h5
    induction hv generalizing g' with
    | imm h => exact imm h hg
    | fr h => cases hg; exact .fr (impo true (fun _ => rfl) h)
    | loc h off b m hm =>
      simp only [renG, Option.map_eq_some_iff] at hg
      obtain ⟨x, h1, rfl⟩ := hg
      exact .loc x off b m (by rw [hmu h1]; exact hm)
    | onil h sz hm =>
      simp only [renG, Option.map_eq_some_iff] at hg
      obtain ⟨x, h1, rfl⟩ := hg
      exact .onil x sz (by rw [hmu h1]; exact hm)
    | osl h sz off n b m cap hm hn hc =>
      simp only [renG, Option.map_eq_some_iff] at hg
      obtain ⟨x, h1, rfl⟩ := hg
      exact .osl x sz off n b m cap (by rw [hmu h1]; exact hm) hn hc
    | ozero h sz off0 b m hm hpos =>
      simp only [renG, Option.map_eq_some_iff] at hg
      obtain ⟨x, h1, rfl⟩ := hg
      exact .ozero x sz off0 b m (by rw [hmu h1]; exact hm) hpos
    | agg cells us hl hr ih =>
      simp only [renG, Option.map_eq_some_iff] at hg
      obtain ⟨gs', h1, rfl⟩ := hg
      obtain ⟨h2, h3⟩ := renG_go h1
      refine .agg gs' us (by omega) fun j g v hg hv => ?_
      obtain ⟨g0, h4, h5⟩ := h3 j g hg
      exact ih j g0 v h4 hv h5
    | tup cells us hl hr ih =>
      simp only [renG, Option.map_eq_some_iff] at hg
      obtain ⟨gs', h1, rfl⟩ := hg
      obtain ⟨h2, h3⟩ := renG_go h1
      refine .tup gs' us (by omega) fun j g v hg hv => ?_
      obtain ⟨g0, h4, h5⟩ := h3 j g hg
      exact ih j g0 v h4 hv h5
    | clo f caps us hl hr ih =>
      simp only [renG, Option.map_eq_some_iff] at hg
      obtain ⟨gs', h1, rfl⟩ := hg
      obtain ⟨h2, h3⟩ := renG_go h1
      refine .clo f gs' us (by omega) fun j g v hg hv => ?_
      obtain ⟨g0, h4, h5⟩ := h3 j g hg
      exact ih j g0 v h4 hv h5
    | yld h b m hm =>
      simp only [renG, Option.map_eq_some_iff] at hg
      obtain ⟨x, h1, rfl⟩ := hg
      exact .yld x b m (by rw [hmu h1]; exact hm)
  refine ⟨{ st := { blk := ?_, inj := ?_, out := ?_, pin := ?_, xlt := hst.xlt, hb := Nat.le_trans hst.hb hsz, os := hC.os.trans hst.os, tape := hC.tape.trans hst.tape, output := hC.output.trans hst.output, keep := ?_ }, nd := ?_, sz := hr.sz, fr := ?_ }, fun g g' v => ren, ?_, fun y h1 h2 => alive y h2 (.inr (.inl h1))⟩
  · intro y k2 h1
    rcases row y k2 h1 with ⟨j, k', k1, e1, e2, e3, e4⟩ | ⟨e0, k0, e1, e2, e3⟩
    · have hmy : muB μ μ'' st' bk y = μ'' j := by unfold muB; rw [e2]
      rw [hmy]
      have hbj := hC.blk j k' e1
      -- a block of the call's own?
      have hk1 : k1.mine = k'.mine := by
        unfold renB at e3
        cases hpp : k'.pure with
        | true =>
          rw [hpp, cond_true] at e3
          cases hvf : (vw && !k'.fresh) with
          | true => rw [hvf] at e3; cases e3
          | false => rw [hvf] at e3; cases e3; rfl
        | false =>
          rw [hpp, cond_false] at e3
          cases hgo : renG.go vw (bkH st' bk) k'.cells with
          | none => rw [hgo] at e3; cases e3
          | some cs => rw [hgo] at e3; cases e3; rfl
      have hmine : ∀ b m, μ'' j = some (b, m) → k2.mine = true → cx.base ≤ b := by
        intro b m hm hk2
        cases hl : k'.lp with
        | some lp =>
          rw [hl] at e4
          unfold mineBk at e4
          rw [show (some lp).isNone = false from rfl, cond_false] at e4
          subst e4
          rw [hm] at hbj
          have : w.heap.size ≤ b := hbj.heap.2 (hk1 ▸ hk2)
          have := hst.hb
          omega
        | none =>
        rw [hl] at e4
        unfold mineBk at e4
        rw [show (none : Option Lp).isNone = true from rfl, cond_true] at e4
        cases hp : pinned j with
        | true =>
          rw [hp, cond_true] at e4
          subst e4
          simp only [mineOf] at hk2
          have hH : H[j - 1000]? = some y := by
            rcases (bkOk_row hok e2).2.2.2 with ⟨_, e⟩ | ⟨e, _⟩
            · exact e
            · rw [hp] at e; cases e
          have hpin := hC.pin j k' e1 hp
          have hj : 1000 ≤ j := Nat.le_of_ble_eq_true hp
          have : μ'' j = μ y := by
            rw [hpin]
            have := muC_at (μ := μ) hH
            rw [show 1000 + (j - 1000) = j by omega] at this
            exact this
          cases hky : sget s.st y with
          | none => rw [hky] at hk2; cases hk2
          | some k0 =>
            rw [hky] at hk2
            have hb0 := hst.blk y k0 hky
            rw [← this, hm] at hb0
            exact hb0.heap.2 hk2
        | false =>
          rw [hp, cond_false] at e4
          subst e4
          simp only [Bool.or_eq_true] at hk2
          rcases hk2 with hk2 | hA
          · rw [hm] at hbj
            have : w.heap.size ≤ b := hbj.heap.2 (hk1 ▸ hk2)
            have := hst.hb
            omega
          · rcases (hC.out j k' b m e1 hm).2 with h5 | h5
            · have := hst.hb
              have h6 : w.heap.size ≤ b := h5
              omega
            · obtain ⟨i, h, k, m', q1, q2, q3⟩ := own_lent hls h5
              rcases mineAll_at hA q1 q2 with h7 | h7
              · have hb0 := hst.blk h k q2
                rw [q3] at hb0
                exact hb0.heap.2 h7
              · exfalso
                rw [Nat.zero_add] at h7
                obtain ⟨k'', h8⟩ := keysHas_get h7
                have h9 := hC.pin _ k'' h8 (pinned_add i)
                have h10 : μ'' (1000 + i) = some (b, m') := by
                  rw [h9]
                  exact (muC_at q1).trans q3
                have := hC.inj j (1000 + i) k' k'' b m m' e1 h8 hm h10
                rw [this, pinned_add] at hp
                cases hp
      have hloop : k'.lp ≠ none → k2 = k1 := by
        intro hl
        rw [e4]
        cases hlp : k'.lp with
        | none => exact absurd hlp hl
        | some lp => rfl
      have hfields : k2.ety = k1.ety ∧ k2.pure = k1.pure ∧ k2.fresh = k1.fresh ∧ k2.sz = k1.sz ∧ k2.cells = k1.cells ∧ k2.lp = k1.lp := by
        rw [e4]; unfold mineBk; cases k'.lp.isNone <;> cases pinned j <;> exact ⟨rfl, rfl, rfl, rfl, rfl, rfl⟩
      obtain ⟨f1, f2, f3, f4, f5, f6⟩ := hfields
      clear e4
      unfold renB at e3
      cases hpp : k'.pure with
      | true =>
        rw [hpp, cond_true] at e3
        cases hvf : (vw && !k'.fresh) with
        | true => rw [hvf] at e3; cases e3
        | false =>
          rw [hvf] at e3
          cases e3
          cases hm : μ'' j with
          | none => rw [hm] at hbj; exact ⟨f5.trans hbj.1, f6.trans hbj.2⟩
          | some bm =>
            obtain ⟨b, m⟩ := bm
            rw [hm] at hbj
            cases hl : k'.lp with
            | none =>
              obtain ⟨cs, h1, h2, h3, h4, h5, h6⟩ := hbj.cells hl
              refine .mk (f6.trans hl) ⟨cs, by rw [f1]; exact h1, h2, by rw [f5]; exact h3, hmine b m hm, by rw [f4]; exact h5, fun j' g hg => ?_⟩
              rw [f5] at hg
              obtain ⟨v, hv, hrv⟩ := h6 j' g hg
              refine ⟨v, hv, ?_⟩
              unfold RepC at hrv ⊢
              rw [f2, f3]
              simp only [hpp] at hrv ⊢
              exact impo k'.fresh (fun e => by rw [e] at hvf; simpa using hvf) hrv
            | some lp =>
              unfold RelBlk at hbj
              rw [hl] at hbj
              obtain ⟨D, vs, _, _, _, h4, _⟩ := hbj
              rw [hpp] at h4; cases h4
      | false =>
        rw [hpp, cond_false] at e3
        cases hgo : renG.go vw (bkH st' bk) k'.cells with
        | none => rw [hgo] at e3; cases e3
        | some cs' =>
          rw [hgo] at e3
          cases e3
          obtain ⟨q1, q2⟩ := renG_go hgo
          simp only at f1 f2 f3 f4 f5 f6
          cases hm : μ'' j with
          | none => rw [hm] at hbj; exact ⟨f5.trans (List.eq_nil_of_length_eq_zero (by rw [q1, hbj.1]; rfl)), f6.trans hbj.2⟩
          | some bm =>
            obtain ⟨b, m⟩ := bm
            rw [hm] at hbj
            cases hl : k'.lp with
            | none =>
              obtain ⟨cs, h1, h2, h3, h4, h5, h6⟩ := hbj.cells hl
              refine .mk (f6.trans hl) ⟨cs, by rw [f1]; exact h1, h2, by rw [f5]; omega, hmine b m hm, by rw [f4]; exact h5, fun j' g hg => ?_⟩
              rw [f5] at hg
              obtain ⟨g0, q3, q4⟩ := q2 j' g hg
              obtain ⟨v, hv, hrv⟩ := h6 j' g0 q3
              refine ⟨v, hv, ?_⟩
              unfold RepC at hrv ⊢
              rw [f2]
              simp only [hpp] at hrv ⊢
              exact ren hrv q4
            | some lp =>
              unfold RelBlk at hbj ⊢
              rw [f6, hl]
              rw [hl] at hbj
              obtain ⟨D, vs, h1, h2, h3, h4, h5⟩ := hbj
              have hk2 : k2.mine = false := by rw [hloop (by rw [hl]; exact fun h => by cases h)]; exact h3
              refine ⟨D, vs, h1, h2, hk2, f2, fun j' t g ht hg => ?_⟩
              rw [f5] at hg
              obtain ⟨g0, q3, q4⟩ := q2 j' g hg
              obtain ⟨v, hv, hrv⟩ := h5 j' t g0 ht q3
              exact ⟨v, hv, ren hrv q4⟩
    · subst e3
      have hmy : muB μ μ'' st' bk y = μ y := by unfold muB; rw [e0]
      rw [hmy]
      refine ((hst.blk y k0 e2).mono (fun b m hm => hkeep b (own_lt hst ⟨y, k0, m, e2, hm⟩) fun ho => ?_) hkept hOO).dead _ fun hp g hg x hx hh => alive x hx (.inr (.inr (notst x y k0 g e2 hp hg hh)))
      obtain ⟨i, h, k, m', q1, q2, q3⟩ := own_lent hls ho
      exact not_both hst q1 q2 q3 e1 e2 hm
  · intro y y' k2 k2' b m m' h1 h2 h3 h4
    rcases whr y k2 b m h1 h3 with ⟨j, k', e1, e2, e3⟩ | ⟨e0, e1, k0, e2, e3⟩ <;> rcases whr y' k2' b m' h2 h4 with ⟨j', k'', e1', e2', e3'⟩ | ⟨e0', e1', k0', e2', e3'⟩
    · have := hC.inj j j' k' k'' b m m' e2 e2' e3 e3'
      subst this
      have := (bkOk_row hok e1).2.2.1.symm.trans (bkOk_row hok e1').2.2.1
      exact Option.some.inj this
    · exfalso
      have hlt := own_lt hst ⟨y', k0', m', e2', e3'⟩
      rcases (hC.out j k' b m e2 e3).2 with h5 | h5
      · exact absurd hlt (Nat.not_lt.2 h5)
      · obtain ⟨i, h, k, m2, q1, q2, q3⟩ := own_lent hls h5
        exact not_both hst q1 q2 q3 e1' e2' e3'
    · exfalso
      have hlt := own_lt hst ⟨y, k0, m, e2, e3⟩
      rcases (hC.out j' k'' b m' e2' e3').2 with h5 | h5
      · exact absurd hlt (Nat.not_lt.2 h5)
      · obtain ⟨i, h, k, m2, q1, q2, q3⟩ := own_lent hls h5
        exact not_both hst q1 q2 q3 e1 e2 e3
    · exact hst.inj y y' k0 k0' b m m' e2 e2' e3 e3'
  · intro y k2 b m h1 h3
    rcases whr y k2 b m h1 h3 with ⟨j, k', e1, e2, e3⟩ | ⟨e0, e1, k0, e2, e3⟩
    · obtain ⟨h5, h6⟩ := hC.out j k' b m e2 e3
      refine ⟨fun hx => h5 (.inl hx), ?_⟩
      rcases h6 with h6 | h6
      · exact .inl (Nat.le_trans hst.hb h6)
      · obtain ⟨i, h, k, m2, q1, q2, q3⟩ := own_lent hls h6
        exact (hst.out h k b m2 q2 q3).2
    · exact hst.out y k0 b m e2 e3
  · intro y k2 h1 hp
    rcases row y k2 h1 with ⟨j, k', k1, e1, e2, e3, e4⟩ | ⟨e0, k0, e1, e2, e3⟩
    · rcases (bkOk_row hok e2).2.2.2 with ⟨e5, e6⟩ | ⟨_, e5, _⟩
      · have hj : 1000 ≤ j := Nat.le_of_ble_eq_true e5
        have h6 : muB μ μ'' st' bk y = μ'' j := by unfold muB; rw [e2]
        rw [h6, hC.pin j k' e1 e5]
        have h7 := muC_at (μ := μ) e6
        rw [show 1000 + (j - 1000) = j by omega] at h7
        obtain ⟨_, k0, hk0⟩ := lendSt_dom hls e6
        exact h7.trans (hst.pin y k0 hk0 hp)
      · rw [not_pinned e5] at hp; cases hp
    · have h6 : muB μ μ'' st' bk y = μ y := by unfold muB; rw [e0]
      rw [h6]
      exact hst.pin y k0 e2 hp
  · intro b hb hA
    rw [hkeep b (by have := hst.hb; omega) fun ho => ?_]
    · exact hst.keep b hb hA
    · obtain ⟨i, h, k, m, q1, q2, q3⟩ := own_lent hls ho
      rcases (hst.out h k b m q2 q3).2 with h4 | h4
      · omega
      · exact hA h4
  · refine (hr.nd.mono hkept hOO).remap fun g hg y hy => ?_
    have hd := List.all_eq_true.1 hdf g hg
    simp only [Bool.not_eq_true'] at hd
    refine alive y (fun hm => by rw [anyH_false hd y hm] at hy; cases hy) (.inr (.inr ?_))
    cases hf : fresh s y with
    | false => rfl
    | true => rw [dfNo_mem (fresh_spec hf).2.2.2.1 hg] at hy; cases hy
  · intro t g hg
    obtain ⟨g0, h1, rfl⟩ := get_deadFr hg
    obtain ⟨v, hv, hrv⟩ := hr.fr t g0 h1
    exact ⟨v, hv, deadG_spec (hrv.mono hkept hOO (Nat.le_refl _)) fun y hy hh => alive y hy (.inr (.inr (notfr y t g0 h1 hh)))⟩
  · intro W hW
    refine ⟨hsz, fun b hb hn => hkeep b hb fun ho => ?_, fun y k2 b m hy h1 h2 => ?_⟩
    · obtain ⟨i, h, k, m, q1, q2, q3⟩ := own_lent hls ho
      exact hn h k m (hW h (mem_of_idx q1)) q2 q3
    · rcases whr y k2 b m h1 h2 with ⟨j, k', e1, e2, e3⟩ | ⟨e0, e1, k0, e2, e3⟩
      · rcases (hC.out j k' b m e2 e3).2 with h6 | h6
        · exact .inr h6
        · obtain ⟨i, h, k, m2, q1, q2, q3⟩ := own_lent hls h6
          exact .inl ⟨h, k, m2, hW h (mem_of_idx q1), q2, q3⟩
      · exact .inl ⟨y, k0, m, hy, e2, e3⟩
end
end Go.AM
/-
 AM, part BB: the steps: calls to which blocks are lent; handles under other numbers.
-/
namespace Go.AM
def ndB : List Nat → Bool
 | [] => true
 | h :: r => !(r.contains h) && ndB r
theorem ndB_spec : ∀ {H : List Nat}, ndB H = true → H.Nodup
 | [], _ => List.nodup_nil
 | h :: r, e => by
  simp only [ndB, Bool.and_eq_true, Bool.not_eq_true'] at e
  refine List.nodup_cons.2 ⟨fun hm => ?_, ndB_spec e.2⟩
  have := e.1
  simp at this
  exact this hm
section
variable {P : Program} {N : Nat} {cx : Cx} {s : St}
variable {ty : TypeId} {pos : String} {after : Array Edge} {guard : Option (Nat × Bool)} {W : List Nat} {d : Nat}
theorem Step.sub {st st' st2 : List (Nat × Blk)} {μ μ' : Mu} {w w' : World} (h : Step W st μ st' μ' w w') (hs : SubSt st' st2) : Step W st μ st2 μ' w w' :=
 ⟨h.size, h.block, fun x k b m h1 h2 h3 => h.hand x k b m h1 (hs.get h2) h3⟩
theorem lend_core {f : FuncId} {vs : List Value} {gs gs' : List G} {stC : List (Nat × Blk)} {Q : G → List (Nat × Blk) → Prop} {Qp : List PanicEntry → List (Nat × Blk) → Prop} {H : List Nat} {vw : Bool} {μ : Mu} {a : Act} {w : World} (hr : Rel N cx μ s a w)
  (hv : lendG.go H (lendV s.st H vw) gs = some gs') (hl : lendSt H (lendV s.st H vw) s.st H 0 = some stC) (hnd : ndB H = true) (hvs : vs.length = gs.length)
  (hrep : ∀ (j : Nat) (g : G) (v : Value), gs[j]? = some g → vs[j]? = some v → RepV (cx.O s.st μ) cx.base w μ g v) (hcon : GP P f gs' stC Q Qp) :
  Calls P f vs.toArray w (Came (lendX cx s.st μ H vw) stC (muC H μ) w Q Qp) := by
 obtain ⟨h1, h2⟩ := lendG_go hv
 have hrel := lend_rel hr.st hl (ndB_spec hnd)
 refine hcon (lendX cx s.st μ H vw) (muC H μ) w vs hrel.xlt hrel (by omega) fun j g v hg hv => ?_
 obtain ⟨g0, h3, h4⟩ := h2 j g hg
 exact lendG_spec hr.st hl (hrep j g0 v h3 hv) h4
def allIn (H W : List Nat) : Bool := H.all W.contains
theorem allIn_spec {H W : List Nat} (h : allIn H W = true) : ∀ x ∈ H, x ∈ W := fun x hx => by
 have := List.all_eq_true.1 h x hx
 simpa using this
theorem EF.lendV {f : FuncId} {x : Operand} {xs : Array Operand} {ts : Array TypeId} {gs caps gs' : List G} {stC : List (Nat × Blk)} {Q : G → List (Nat × Blk) → Prop} {s1 : St} (H : List Nat) (vw : Bool) (bk : List Nat) (hc : ∀ args w, (callFunc f args).run P w = .ok (.enter f args) w)
    (hf : ev s x = some (.clo f caps)) (hx : evA s xs.toList = some gs) (hv : lendG.go H (lendV s.st H vw) (gs ++ caps) = some gs') (hl : lendSt H (lendV s.st H vw) s.st H 0 = some stC) (hnd : ndB H = true) (hcon : GM P f gs' stC Q)
    (hres : ∀ r st', Q r st' → ∃ s2 r', backS vw s H st' bk = some s2 ∧ renG vw (bkH st' bk) r = some r' ∧ Sub (s2.put d r') s1) (hW : allIn H W = true) :
    Effect P W s ⟨some d, .call ⟨.value x, xs, ts⟩, ty, pos, after, guard⟩ (· = s1) := by
  refine ⟨(fun _ h => by cases h), ?_⟩
  intro N cx μ a w hr hN K Q' hK
  obtain ⟨h1, h2⟩ := evA_get hx
  have hcl := hr.ev hf
  generalize hav : a.eval x = vf at hcl
  cases hcl with
  | imm h => cases h
  | clo _ _ us hlu hrc =>
    have hcall := lend_core (vs := xs.toList.map a.eval ++ us) hr hv hl hnd (by simp [h1, hlu]) (fun j g v hg hv => by
      rw [List.getElem?_append] at hg hv
      rw [List.length_map, ← h1] at hv
      split at hg
      · rename_i hj
        rw [if_pos hj] at hv
        obtain ⟨x, hxj, he⟩ := h2 j g hg
        rw [List.getElem?_map, hxj] at hv
        cases hv
        exact hr.ev he
      · rename_i hj
        rw [if_neg hj] at hv
        exact hrc _ g v hg hv) hcon
    unfold Oper.wp
    have : (execOp a.eval ⟨some d, .call ⟨.value x, xs, ts⟩, ty, pos, after, guard⟩).run P w = .ok (.enter f (xs.toList.map a.eval ++ us).toArray) w := by
      have e : xs.map a.eval ++ us.toArray = (xs.toList.map a.eval ++ us).toArray := by rw [← List.append_toArray, ← Array.toList_map]
      simp [execOp, resolve, invoke, Deferred.ofValue, hav, hc, e]
    rw [this]
    refine hcall.mono ?_
    rintro e w' (⟨v, r, st', μ', rfl, hq, hC, hrv⟩ | ⟨_, _, _, _, h, _⟩)
    · obtain ⟨s2, r', hb, hren, hsub⟩ := hres r st' hq
      obtain ⟨q1, q2, q3, _⟩ := back_rel hr hl (ndB_spec hnd) hC hb
      exact hK _ _ _ w' ((q1.put (hN d rfl) (q2 r r' v hrv hren)).sub hsub) rfl ((q3 W (allIn_spec hW)).sub hsub.2.1)
    · exact h.elim
end
end Go.AM
/-
 AM, part BC: a handle under another number (a block that was handed in and may move from now on).
-/
namespace Go.AM
def mv (h h' x : Nat) : Nat := bif Nat.beq x h then h' else x
theorem mv_same (h h' : Nat) : mv h h' h = h' := by simp [mv, Nat.beq_refl]
theorem mv_other {h h' x : Nat} (e : x ≠ h) : mv h h' x = x := by
 unfold mv
 cases hb : Nat.beq x h with
 | false => rfl
 | true => exact absurd (Nat.eq_of_beq_eq_true hb) e
def mvG (h h' : Nat) : G → G
 | .loc x off => .loc (mv h h' x) off
 | .osl x sz off n => .osl (mv h h' x) sz off n
 | .yld x => .yld (mv h h' x)
 | .agg gs => .agg (go gs)
 | .tup gs => .tup (go gs)
 | .clo f gs => .clo f (go gs)
 | g => g
where go : List G → List G
 | [] => []
 | g :: r => mvG h h' g :: go r
theorem mvG_go {h h' : Nat} {gs : List G} : (mvG.go h h' gs).length = gs.length ∧ ∀ (j : Nat) (g' : G), (mvG.go h h' gs)[j]? = some g' → ∃ g, gs[j]? = some g ∧ g' = mvG h h' g := by
 induction gs with
 | nil => exact ⟨rfl, fun j g e => by simp [mvG.go] at e⟩
 | cons x r ih =>
  refine ⟨by simp [mvG.go, ih.1], fun j g' e => ?_⟩
  simp only [mvG.go] at e
  cases j with
  | zero => cases e; exact ⟨x, rfl, rfl⟩
  | succ j => exact ih.2 j g' e
def mvB (h h' : Nat) (k : Blk) : Blk := bif k.pure then k else { k with cells := mvG.go h h' k.cells }
def mvFr (h h' : Nat) : List (Nat × G) → List (Nat × G)
 | [] => []
 | (t, g) :: r => (t, mvG h h' g) :: mvFr h h' r
def mvSt (h h' : Nat) : List (Nat × Blk) → List (Nat × Blk)
 | [] => []
 | (x, k) :: r => (mv h h' x, mvB h h' k) :: mvSt h h' r
theorem get_mvFr {h h' : Nat} {fr : List (Nat × G)} {t : Nat} {g : G} (hg : get (mvFr h h' fr) t = some g) : ∃ g0, get fr t = some g0 ∧ g = mvG h h' g0 := by
 induction fr with
 | nil => cases hg
 | cons x r ih =>
  obtain ⟨k, g'⟩ := x
  simp only [mvFr, get_cons] at hg ⊢
  cases hb : Nat.beq k t with
  | true => rw [hb] at hg; cases hg; exact ⟨g', rfl, rfl⟩
  | false => rw [hb] at hg; exact ih hg
theorem sget_mvSt {h h' : Nat} (hne : h' ≠ h) {st : List (Nat × Blk)} {y : Nat} {k2 : Blk} (hn : sget st h' = none) (hg : sget (mvSt h h' st) y = some k2) :
    (y = h' ∧ ∃ k, sget st h = some k ∧ k2 = mvB h h' k) ∨ (y ≠ h' ∧ y ≠ h ∧ ∃ k, sget st y = some k ∧ k2 = mvB h h' k) := by
  induction st with
  | nil => cases hg
  | cons x r ih =>
    obtain ⟨z, k⟩ := x
    have hz : z ≠ h' := fun e => by subst e; rw [sget_cons_same] at hn; cases hn
    rw [sget_cons_other _ _ (Ne.symm hz)] at hn
    simp only [mvSt, sget_cons] at hg
    cases hb : Nat.beq (mv h h' z) y with
    | true =>
      rw [hb] at hg
      cases hg
      have hb := Nat.eq_of_beq_eq_true hb
      by_cases e : z = h
      · subst e
        rw [mv_same] at hb
        exact .inl ⟨hb.symm, k, sget_cons_same _ _ _, rfl⟩
      · rw [mv_other e] at hb
        subst hb
        exact .inr ⟨hz, e, k, sget_cons_same _ _ _, rfl⟩
    | false =>
      rw [hb] at hg
      have hbz : mv h h' z ≠ y := fun e => by rw [e, Nat.beq_refl] at hb; cases hb
      rcases ih hn hg with ⟨e, k', h1, h2⟩ | ⟨e1, e2, k', h1, h2⟩
      · refine .inl ⟨e, k', ?_, h2⟩
        rw [sget_cons_other _ _ (fun e' => by subst e'; rw [mv_same] at hbz; exact hbz e.symm)]
        exact h1
      · refine .inr ⟨e1, e2, k', ?_, h2⟩
        rw [sget_cons_other _ _ (fun e' => by subst e'; rw [mv_other e2] at hbz; exact hbz rfl)]
        exact h1
theorem mvG_spec {O : Nat → Prop} {base : Nat} {w : World} {μ μ' : Mu} {h h' : Nat} {g : G} {v : Value} (hv : RepV O base w μ g v) (h1 : μ' h' = μ h) (h2 : ∀ y, y ≠ h → g.hasH y = true → μ' y = μ y) : RepV O base w μ' (mvG h h' g) v := by
 have key : ∀ {y : Nat} {x : Option (Nat × Nat)}, μ y = x → (y ≠ h → μ' y = μ y) → μ' (mv h h' y) = x := by
  intro y x hm hy
  by_cases e : y = h
  · subst e; rw [mv_same, h1]; exact hm
  · rw [mv_other e, hy e]; exact hm
 have imm : ∀ {g : G} {v : Value}, RepI O w g v → RepV O base w μ' (mvG h h' g) v := by
  intro g v hi
  induction hi with
  | any v => exact .imm (.any v)
  | val v => exact .imm (.val v)
  | nil => exact .imm .nil
  | emp a c => exact .imm (.emp a c)
  | sl n cells b off cap us h1 h2 h3 h4 h5 ih => exact .imm (.sl n cells b off cap us h1 h2 h3 h4 h5)
  | ptr cells b off us h1 h2 h3 h4 ih => exact .imm (.ptr cells b off us h1 h2 h3 h4)
  | agg cells us hl hr ih =>
   refine .agg _ us (by rw [mvG_go.1]; exact hl) fun j g v hg hv => ?_
   obtain ⟨g0, e1, rfl⟩ := mvG_go.2 j g hg
   exact ih j g0 v e1 hv
 induction hv with
 | imm h => exact imm h
 | fr h => exact .fr h
 | loc x off b m hm => exact .loc _ off b m (key hm fun e => h2 x e (by simp [G.hasH, Nat.beq_refl]))
 | onil x sz hm => exact .onil _ sz (key hm fun e => h2 x e (by simp [G.hasH, Nat.beq_refl]))
 | osl x sz off n b m cap hm hn hc => exact .osl _ sz off n b m cap (key hm fun e => h2 x e (by simp [G.hasH, Nat.beq_refl])) hn hc
 | ozero x sz off0 b m hm hp => exact .ozero _ sz off0 b m (key hm fun e => h2 x e (by simp [G.hasH, Nat.beq_refl])) hp
 | yld x b m hm => exact .yld _ b m (key hm fun e => h2 x e (by simp [G.hasH, Nat.beq_refl]))
 | agg cells us hl hr ih =>
  refine .agg _ us (by rw [mvG_go.1]; exact hl) fun j g v hg hv => ?_
  obtain ⟨g0, e1, rfl⟩ := mvG_go.2 j g hg
  exact ih j g0 v e1 hv fun y hy hh => h2 y hy (by simp only [G.hasH]; exact G.hasH_go (List.mem_of_getElem? e1) hh)
 | tup cells us hl hr ih =>
  refine .tup _ us (by rw [mvG_go.1]; exact hl) fun j g v hg hv => ?_
  obtain ⟨g0, e1, rfl⟩ := mvG_go.2 j g hg
  exact ih j g0 v e1 hv fun y hy hh => h2 y hy (by simp only [G.hasH]; exact G.hasH_go (List.mem_of_getElem? e1) hh)
 | clo f cells us hl hr ih =>
  refine .clo f _ us (by rw [mvG_go.1]; exact hl) fun j g v hg hv => ?_
  obtain ⟨g0, e1, rfl⟩ := mvG_go.2 j g hg
  exact ih j g0 v e1 hv fun y hy hh => h2 y hy (by simp only [G.hasH]; exact G.hasH_go (List.mem_of_getElem? e1) hh)
theorem RelBlk.move {O : Nat → Prop} {base : Nat} {w : World} {μ μ' : Mu} {k : Blk} {x : Option (Nat × Nat)} {h h' : Nat} (hb : RelBlk O base w μ k x) (h1 : μ' h' = μ h) (h2 : k.pure = false → ∀ g ∈ k.cells, ∀ y, y ≠ h → g.hasH y = true → μ' y = μ y) : RelBlk O base w μ' (mvB h h' k) x := by
 unfold mvB
 cases hp : k.pure with
 | true => exact hb.remap fun hp' => by rw [hp] at hp'; cases hp'
 | false =>
  have h2 := h2 hp
  simp only [cond_false]
  cases x with
  | none => obtain ⟨e1, e2⟩ := hb; exact ⟨List.eq_nil_of_length_eq_zero (by simp only; rw [mvG_go.1, e1]; rfl), e2⟩
  | some bm =>
   obtain ⟨b, m⟩ := bm
   cases hl : k.lp with
   | none =>
    obtain ⟨cs1, h4, h5, h6, h7, h8, h9⟩ := hb.cells hl
    refine .mk rfl ⟨cs1, h4, h5, by simp only; rw [mvG_go.1]; exact h6, h7, h8, fun j g hg => ?_⟩
    obtain ⟨g0, e1, rfl⟩ := mvG_go.2 j g hg
    obtain ⟨v, hv, hrv⟩ := h9 j g0 e1
    refine ⟨v, hv, ?_⟩
    unfold RepC at hrv ⊢
    rw [hp] at hrv
    simp only
    exact mvG_spec hrv h1 (h2 g0 (List.mem_of_getElem? e1))
   | some lp =>
    unfold RelBlk at hb ⊢
    simp only [hl] at hb ⊢
    obtain ⟨D, vs, q1, q2, q3, q4, q5⟩ := hb
    refine ⟨D, vs, q1, q2, q3, rfl, fun j t g ht hg => ?_⟩
    obtain ⟨g0, e1, rfl⟩ := mvG_go.2 j g hg
    obtain ⟨v, hv, hrv⟩ := q5 j t g0 ht e1
    exact ⟨v, hv, mvG_spec hrv h1 (h2 g0 (List.mem_of_getElem? e1))⟩
section
variable {P : Program} {N : Nat} {cx : Cx} {s : St} {Q : Exit → St → Prop}
theorem Rel.move {μ : Mu} {a : Act} {w : World} (hr : Rel N cx μ s a w) (h h' : Nat) (hf : fresh s h' = true) (hne : Nat.beq h' h = false) :
    Rel N cx (upd μ h' (μ h)) { fr := mvFr h h' s.fr, st := mvSt h h' s.st, df := mvG.go h h' s.df } a w := by
  have hne : h' ≠ h := fun e => by subst e; rw [Nat.beq_refl] at hne; cases hne
  obtain ⟨f1, f2, f3, f4, f5⟩ := fresh_spec hf
  have other : ∀ {y}, y ≠ h' → upd μ h' (μ h) y = μ y := fun e => upd_other e
  have row := fun (y : Nat) (k2 : Blk) (e : sget (mvSt h h' s.st) y = some k2) => sget_mvSt hne f1 e
  have whr : ∀ y k2, sget (mvSt h h' s.st) y = some k2 → ∃ x k, sget s.st x = some k ∧ k2 = mvB h h' k ∧ upd μ h' (μ h) y = μ x ∧ y = mv h h' x := by
    intro y k2 e
    rcases row y k2 e with ⟨rfl, k, e1, e2⟩ | ⟨e0, e1, k, e2, e3⟩
    · exact ⟨h, k, e1, e2, upd_same _ _ _, (mv_same _ _).symm⟩
    · exact ⟨y, k, e2, e3, other e0, (mv_other e1).symm⟩
  have hO : ∀ b, ¬ cx.O s.st μ b → ¬ cx.O (mvSt h h' s.st) (upd μ h' (μ h)) b := by
    rintro b hn (ho | ⟨y, k2, m, e1, e2⟩)
    · exact hn (.inl ho)
    · obtain ⟨x, k, q1, _, q3, _⟩ := whr y k2 e1
      rw [q3] at e2
      exact hn (.inr ⟨x, k, m, q1, e2⟩)
  refine { st := { blk := ?_, inj := ?_, out := ?_, pin := ?_, xlt := hr.st.xlt, hb := hr.st.hb, os := hr.st.os, tape := hr.st.tape, output := hr.st.output, keep := hr.st.keep }, nd := ?_, sz := hr.sz, fr := ?_ }
  · intro y k2 e
    obtain ⟨x, k, q1, rfl, q3, _⟩ := whr y k2 e
    rw [q3]
    exact ((hr.st.blk x k q1).mono (fun _ _ _ => rfl) (Kept.refl _ _) fun b _ => hO b).move (upd_same _ _ _) fun hp g hg y _ hh => other fun e => by subst e; rw [stNo_get f3 q1 hp hg] at hh; cases hh
  · intro y y' k2 k2' b m m' e1 e2 e3 e4
    obtain ⟨x, k, q1, _, q3, q4⟩ := whr y k2 e1
    obtain ⟨x', k', q1', _, q3', q4'⟩ := whr y' k2' e2
    rw [q3] at e3
    rw [q3'] at e4
    rw [q4, q4', hr.st.inj x x' k k' b m m' q1 q1' e3 e4]
  · intro y k2 b m e1 e2
    obtain ⟨x, k, q1, _, q3, _⟩ := whr y k2 e1
    rw [q3] at e2
    exact hr.st.out x k b m q1 e2
  · intro y k2 e hp
    rcases row y k2 e with ⟨rfl, _⟩ | ⟨e0, e1, k, e2, _⟩
    · rw [not_pinned f5] at hp; cases hp
    · rw [other e0]; exact hr.st.pin y k e2 hp
  · have hnd := hr.nd.mono (Kept.refl _ _) fun b _ => hO b
    clear hO whr row
    generalize s.df = gs at hnd f4
    generalize a.defers = ds at hnd
    induction hnd with
    | nil => exact .nil
    | mark h1 h2 h3 h4 h5 h6 ih => exact .mark h1 h2 h3 h4 h5 (ih f4)
    | clo h1 h2 ih =>
      simp only [dfNo, Bool.and_eq_true, Bool.not_eq_true'] at f4
      exact .clo (mvG_spec h1 (upd_same _ _ _) fun y _ hh => other fun e => by subst e; rw [f4.1] at hh; cases hh) (ih f4.2)
  · intro t g hg
    obtain ⟨g0, e1, rfl⟩ := get_mvFr hg
    obtain ⟨v, hv, hrv⟩ := hr.fr t g0 e1
    exact ⟨v, hv, mvG_spec (hrv.mono (Kept.refl _ _) (fun b _ => hO b) (Nat.le_refl _)) (upd_same _ _ _) fun y _ hh => other fun e => by subst e; rw [frNo_get f2 e1] at hh; cases hh⟩
theorem GW.move {c : Code} (h h' : Nat) (hf : fresh s h' = true) (hne : Nat.beq h' h = false) (k : GW P N cx c Q { fr := mvFr h h' s.fr, st := mvSt h h' s.st, df := mvG.go h h' s.df }) : GW P N cx c Q s := fun _ a w hr => k _ a w (hr.move h h' hf hne)
theorem GL.move {ops : Array Oper} {rest : List Oper} (h h' : Nat) (hf : fresh s h' = true) (hne : Nat.beq h' h = false) (k : GL P N cx ops Q rest { fr := mvFr h h' s.fr, st := mvSt h h' s.st, df := mvG.go h h' s.df }) : GL P N cx ops Q rest s := fun _ a w hr => k _ a w (hr.move h h' hf hne)
end
end Go.AM
/-
 AM, part BD: loops over functions: their rounds, the calls of yield, the loop itself.
-/
namespace Go.AM
theorem RelSt.ro {cx : Cx} {μ : Mu} {st : List (Nat × Blk)} {w : World} (h : RelSt cx μ st w) (r : Option Nat) : RelSt { cx with ro := r } μ st w :=
 { blk := h.blk, inj := h.inj, out := h.out, pin := h.pin, xlt := h.xlt, hb := h.hb, os := h.os, tape := h.tape, output := h.output, keep := h.keep }
def zipG : List Nat → List G → List (Nat × G)
 | t :: ts, g :: gs => (t, g) :: zipG ts gs
 | _, _ => []
theorem get_zipG : ∀ {ts : List Nat} {gs : List G} {t : Nat} {g : G}, get (zipG ts gs) t = some g → ∃ j : Nat, ts[j]? = some t ∧ gs[j]? = some g
 | [], _, _, _, h => by cases h
 | _ :: _, [], _, _, h => by cases h
 | x :: ts, y :: gs, t, g, h => by
  simp only [zipG, get_cons] at h
  cases hb : Nat.beq x t with
  | true => rw [hb] at h; cases h; have := Nat.eq_of_beq_eq_true hb; subst this; exact ⟨0, rfl, rfl⟩
  | false =>
   rw [hb] at h
   obtain ⟨j, h1, h2⟩ := get_zipG h
   exact ⟨j + 1, h1, h2⟩
theorem get_append {a b : List (Nat × G)} {t : Nat} : get (a ++ b) t = (get a t).or (get b t) := by
 induction a with
 | nil => rfl
 | cons x r ih =>
  obtain ⟨y, k⟩ := x
  simp only [List.cons_append, get]
  cases Nat.beq y t with
  | true => rfl
  | false => exact ih
def RoundQ (Q : Option Code → List (Nat × Blk) → Prop) : Exit → St → Prop := fun e s => s.df = [] ∧ ∃ st', SubSt s.st st' ∧ match e with
 | .normal => Q none st'
 | .ret => Q (some .ret) st'
 | .exit id => Q (some (.exit id)) st'
 | _ => False
def GY (P : Program) (lp : Lp) (cells args : List G) (st : List (Nat × Blk)) (Q : Option Code → List (Nat × Blk) → Prop) : Prop :=
 ∀ cx, GW P lp.N cx lp.assign (fun e s => e = .normal ∧ ∀ cx', GW P lp.N cx' lp.body (RoundQ Q) s) { fr := zipG lp.ps.toList args ++ zipG lp.slots cells, st := st, df := [] }
theorem GY.of {P : Program} {lp : Lp} {cells args : List G} {st : List (Nat × Blk)} {Q : Option Code → List (Nat × Blk) → Prop} {asg body : Code} (ha : lp.assign = asg) (hb : lp.body = body)
  (h : ∀ cx, GW P lp.N cx asg (fun e s => e = .normal ∧ ∀ cx', GW P lp.N cx' body (RoundQ Q) s) { fr := zipG lp.ps.toList args ++ zipG lp.slots cells, st := st, df := [] }) : GY P lp cells args st Q := by
 unfold GY; rw [ha, hb]; exact h
section
variable {P : Program} {N : Nat} {cx : Cx} {s : St}
theorem foldl_set (ps : List Nat) (vs : List Value) (tm : Array Value) (t : Nat) : ((ps.zip vs).foldl (fun (tm : Array Value) (x : Nat × Value) => tm.setIfInBounds x.1 x.2) tm).size = tm.size ∧
  (t ∉ ps → ((ps.zip vs).foldl (fun (tm : Array Value) (x : Nat × Value) => tm.setIfInBounds x.1 x.2) tm)[t]? = tm[t]?) := by
 induction ps generalizing vs tm with
 | nil => exact ⟨rfl, fun _ => rfl⟩
 | cons p r ih =>
  cases vs with
  | nil => exact ⟨rfl, fun _ => rfl⟩
  | cons v vs =>
   simp only [List.zip_cons_cons, List.foldl_cons]
   obtain ⟨h1, h2⟩ := ih vs (tm.setIfInBounds p v)
   refine ⟨h1.trans (by simp), fun hn => ?_⟩
   rw [List.mem_cons, not_or] at hn
   rw [h2 hn.2, Array.getElem?_setIfInBounds_ne (Ne.symm hn.1)]
theorem foldl_set_get : ∀ (ps : List Nat) (vs : List Value) (tm : Array Value) (j t : Nat) (v : Value), ps.Nodup → ps[j]? = some t → vs[j]? = some v → t < tm.size →
  ((ps.zip vs).foldl (fun (tm : Array Value) (x : Nat × Value) => tm.setIfInBounds x.1 x.2) tm)[t]? = some v
 | [], _, _, _, _, _, _, h, _, _ => by cases h
 | _ :: _, [], _, _, _, _, _, _, h, _ => by cases h
 | p :: r, u :: vs, tm, j, t, v, hn, h1, h2, hl => by
  simp only [List.zip_cons_cons, List.foldl_cons]
  cases j with
  | zero =>
   cases h1; cases h2
   rw [(foldl_set r vs _ _).2 (List.nodup_cons.1 hn).1, Array.getElem?_setIfInBounds_self_of_lt hl]
  | succ j => exact foldl_set_get r vs _ j t v (List.nodup_cons.1 hn).2 h1 h2 (by simpa using hl)
theorem Rel.loopAt {μ : Mu} {a : Act} {w : World} (hr : Rel N cx μ s a w) {h : Nat} {k : Blk} {lp : Lp} (hk : sget s.st h = some k) (hlp : k.lp = some lp) :
  ∃ l m, μ h = some (l, m) ∧ RelLp (cx.O s.st μ) cx.base w μ k lp l := by
 have hb := hr.st.blk h k hk
 cases hm : μ h with
 | none => rw [hm] at hb; have := hb.2; rw [hlp] at this; cases this
 | some bm =>
  obtain ⟨l, m⟩ := bm
  rw [hm] at hb
  unfold RelBlk at hb
  rw [hlp] at hb
  exact ⟨l, m, rfl, hb⟩
theorem RelLp.shut {O Z : Nat → Prop} {base : Nat} {w w' : World} {μ : Mu} {k k' : Blk} {lp lp' : Lp} {l : Nat} (hr : RelLp O base w μ k lp l) (h : Shut Z w w') (hl : ∀ (D : Nat × FuncId) vs, w.heap[l]? = some (.loop { state := if lp.pend.isNone then .ready else .done, pending := lp.pend, fn := D.2, tmps := vs, params := lp.ps, assign := lp.assign, body := lp.body, defers := D.1 }) →
   w'.heap[l]? = some (.loop { state := if lp'.pend.isNone then .ready else .done, pending := lp'.pend, fn := D.2, tmps := vs, params := lp'.ps, assign := lp'.assign, body := lp'.body, defers := D.1 })) (e1 : lp'.N = lp.N) (e2 : lp'.slots = lp.slots) (e3 : k'.cells = k.cells) (e4 : k'.mine = k.mine) (e5 : k'.pure = k.pure) : RelLp O base w' μ k' lp' l := by
 obtain ⟨D, vs, h1, h2, h3, h4, h5⟩ := hr
 refine ⟨D, vs, hl D vs h1, h2.trans e1.symm, e4.trans h3, e5.trans h4, fun j t g ht hg => ?_⟩
 rw [e2] at ht
 rw [e3] at hg
 obtain ⟨v, hv, hrv⟩ := h5 j t g ht hg
 exact ⟨v, hv, hrv.shut h⟩
theorem Rel.setLoop {μ : Mu} {a : Act} {w : World} (hr : Rel N cx μ s a w) {h l m : Nat} {k : Blk} {lp : Lp} (hk : sget s.st h = some k) (hlp : k.lp = some lp) (hm : μ h = some (l, m)) (j : Option Code) {D : Nat × FuncId} {vs : Array Value}
    (hD : w.heap[l]? = some (.loop { state := if lp.pend.isNone then .ready else .done, pending := lp.pend, fn := D.2, tmps := vs, params := lp.ps, assign := lp.assign, body := lp.body, defers := D.1 })) :
    Rel N cx μ { s with st := sset s.st h { k with lp := some { lp with pend := j } } } a (w.putObj l (.loop { state := if j.isNone then .ready else .done, pending := j, fn := D.2, tmps := vs, params := lp.ps, assign := lp.assign, body := lp.body, defers := D.1 })) := by
  have hs : Shut (fun b => b = l) w (w.putObj l (.loop { state := if j.isNone then .ready else .done, pending := j, fn := D.2, tmps := vs, params := lp.ps, assign := lp.assign, body := lp.body, defers := D.1 })) := Shut.put _ rfl hD rfl
  have hll : l < w.heap.size := lt_of_heap hD
  have hOO : ∀ b, cx.O (sset s.st h { k with lp := some { lp with pend := j } }) μ b ↔ cx.O s.st μ b := fun b => or_congr Iff.rfl (Own.sset hk)
  have hO : ∀ b, ¬ cx.O s.st μ b → ¬ cx.O (sset s.st h { k with lp := some { lp with pend := j } }) μ b := fun b hn ho => hn ((hOO b).1 ho)
  have dom : ∀ x k1, sget (sset s.st h { k with lp := some { lp with pend := j } }) x = some k1 → ∃ k0, sget s.st x = some k0 := fun x k1 h1 => by
    rcases sget_sset_iff hk h1 with ⟨rfl, rfl⟩ | ⟨_, h1⟩
    · exact ⟨k, hk⟩
    · exact ⟨_, h1⟩
  refine { st := { blk := ?_, inj := ?_, out := ?_, pin := ?_, xlt := hr.st.xlt, hb := by rw [hs.size]; exact hr.st.hb, os := hr.st.os, tape := hr.st.tape, output := hr.st.output, keep := ?_ }, nd := ?_, sz := hr.sz, fr := ?_ }
  · intro x k1 h1
    rcases sget_sset_iff hk h1 with ⟨rfl, rfl⟩ | ⟨hne, h1⟩
    · rw [hm]
      have hb := hr.st.blk x k hk
      rw [hm] at hb
      unfold RelBlk at hb ⊢
      rw [hlp] at hb
      simp only
      refine (hb.shut (Z := fun b => b = l) (w := w) (k' := k) (lp' := { lp with pend := j }) hs (fun D' vs' h' => ?_) rfl rfl rfl rfl rfl).imp fun D' hx => hx.imp fun vs' hx => ⟨hx.1, hx.2.1, hx.2.2.1, hx.2.2.2.1, fun j' t g ht hg => let ⟨v, hv, hrv⟩ := hx.2.2.2.2 j' t g ht hg; ⟨v, hv, hrv.mono (Kept.refl _ _) (fun b _ => hO b) (Nat.le_refl _)⟩⟩
      rw [hD] at h'
      obtain ⟨_, _⟩ := D
      obtain ⟨_, _⟩ := D'
      cases h'
      rw [World.putObj_heap_same hll]
    · exact ((hr.st.blk x k1 h1).shut hs fun b m' hmx _ hb => hne (hr.st.inj x h k1 k b m' m h1 hk hmx (hb ▸ hm))).mono (fun _ _ _ => rfl) (Kept.refl _ _) (fun b _ => hO b)
  · intro x x' k1 k2 b m1 m2 h1 h2 h3 h4
    obtain ⟨k1', h1'⟩ := dom x k1 h1
    obtain ⟨k2', h2'⟩ := dom x' k2 h2
    exact hr.st.inj x x' k1' k2' b m1 m2 h1' h2' h3 h4
  · intro x k1 b m1 h1 h2
    obtain ⟨k1', h1'⟩ := dom x k1 h1
    exact hr.st.out x k1' b m1 h1' h2
  · intro x k1 h1 h2
    obtain ⟨k1', h1'⟩ := dom x k1 h1
    exact hr.st.pin x k1' h1' h2
  · intro b hb hA
    have hne : b ≠ l := fun e => by
      subst e
      rcases (hr.st.out h k b m hk hm).2 with h1 | h1
      · omega
      · exact hA h1
    rw [World.putObj_heap_other hne]
    exact hr.st.keep b hb hA
  · refine (DfRel.shut hr.nd hs fun d hd D' e hz => ?_).mono (Kept.refl _ _) (fun b _ => hO b)
    subst hz
    have key : ∀ {ds : List Deferred} {gs : List G}, DfRel (cx.O s.st μ) cx.base w μ ds gs → d ∈ ds → ∃ x, w.heap[D']? = some (.deferred x) := by
      intro ds gs hdf
      induction hdf with
      | nil => intro h; cases h
      | mark _ _ _ h4 _ _ ih =>
        intro hd
        rcases List.mem_cons.1 hd with rfl | hd
        · cases e; exact ⟨_, h4⟩
        · exact ih hd
      | clo _ _ ih =>
        intro hd
        rcases List.mem_cons.1 hd with rfl | hd
        · cases e
        · exact ih hd
    obtain ⟨x, hx⟩ := key hr.nd hd
    rw [hD] at hx; cases hx
  · intro t g hg
    obtain ⟨v, hv, hrv⟩ := hr.fr t g hg
    exact ⟨v, hv, (hrv.shut hs).mono (Kept.refl _ _) (fun b _ => hO b) (Nat.le_refl _)⟩
theorem putObj_twice (w : World) (l : Nat) (o o' : Obj) : (w.putObj l o).putObj l o' = w.putObj l o' := by
 simp [World.putObj]
variable {ty : TypeId} {pos : String} {after : Array Edge} {guard : Option (Nat × Bool)} {d : Nat} {ops : Array Oper} {rest : List Oper} {R : Exit → St → Prop}
theorem round_core {μ : Mu} {a : Act} {w : World} {vs : List Value} {gs gs' cells' : List G} {stC : List (Nat × Blk)} {Q : Option Code → List (Nat × Blk) → Prop} {h l m : Nat} {k : Blk} {lp : Lp} (hr : Rel N cx μ s a w) (hk : sget s.st h = some k) (hlp : k.lp = some lp) (hpend : lp.pend = none) (hm : μ h = some (l, m))
  (H : List Nat) (hh : idxH H h = none) (hv : lendG.go H [] gs = some gs') (hc : lendG.go H [] k.cells = some cells') (hl : lendSt H [] s.st H 0 = some stC) (hnd : ndB H = true) (hps : gs'.length = lp.ps.size) (hpn : ndB lp.ps.toList = true) (hpl : lp.ps.toList.all (Nat.blt · lp.N) = true)
  (hvs : vs.length = gs.length) (hrep : ∀ (j : Nat) (g : G) (v : Value), gs[j]? = some g → vs[j]? = some v → RepV (cx.O s.st μ) cx.base w μ g v) (hcon : GY P lp cells' gs' stC Q)
  {T : Ending → World → Prop} (hT : ∀ j st' μ'' w3, Q j st' → RelSt (cx0 (lendX cx s.st μ H false) stC (muC H μ) w) μ'' st' w3 → ∀ (D : Nat × FuncId) tm, w3.heap[l]? = some (.loop { state := .ready, pending := none, fn := D.2, tmps := tm, params := lp.ps, assign := lp.assign, body := lp.body, defers := D.1 }) →
   T (.returned (.bool j.isNone)) (w3.putObj l (.loop { state := if j.isNone then .ready else .done, pending := j, fn := D.2, tmps := tm, params := lp.ps, assign := lp.assign, body := lp.body, defers := D.1 }))) :
  ∃ (tm0 : Array Value) (D : Nat × FuncId), w.heap[l]? = some (.loop { state := .ready, pending := none, fn := D.2, tmps := tm0, params := lp.ps, assign := lp.assign, body := lp.body, defers := D.1 }) ∧
   RoundIn (FF cx.ro) 0 P l D.2 ((lp.ps.zip vs.toArray).foldl (fun tmps (t, a) => tmps.setIfInBounds t a) tm0) lp.assign lp.body w T := by
 obtain ⟨l', m', hm', D, tm0, q1, q2, q3, q4, q5⟩ := hr.loopAt hk hlp
 rw [hm] at hm'
 cases hm'
 simp only [hpend, Option.isNone_none, if_true] at q1
 refine ⟨tm0, D, q1, ?_⟩
 have hll := lt_of_heap q1
 have hls : lendSt H (lendV s.st H false) s.st H 0 = some stC := hl
 have hrel := lend_rel hr.st hls (ndB_spec hnd)
 have hlX : lendX cx s.st μ H false l := .inr ⟨rfl, ⟨h, k, m, outSt_of hh hk, hm⟩⟩
 have hlA : ¬ Own stC (muC H μ) l := fun ho => by
  obtain ⟨i, h', k', m', e1, e2, e3⟩ := own_lent hls ho
  exact not_both hr.st e1 e2 e3 hh hk hm
 generalize htm : (lp.ps.zip vs.toArray).foldl (fun tmps (t, a) => tmps.setIfInBounds t a) tm0 = tm
 have htm' : (lp.ps.toList.zip vs).foldl (fun (tm : Array Value) (x : Nat × Value) => tm.setIfInBounds x.1 x.2) tm0 = tm := by
  rw [← htm, ← Array.foldl_toList, Array.toList_zip]
 obtain ⟨v1, v2⟩ := lendG_go hv
 obtain ⟨c1, c2⟩ := lendG_go hc
 -- the frame of the round
 have hstart : Rel lp.N { cx0 (lendX cx s.st μ H false) stC (muC H μ) w with ro := some l } (muC H μ) { fr := zipG lp.ps.toList gs' ++ zipG lp.slots cells', st := stC, df := [] } { tmps := tm, defers := [] } w := by
  refine { st := hrel.ro _, nd := .nil, sz := by rw [← htm']; exact (foldl_set _ _ _ 0).1.trans q2, fr := fun t g hg => ?_ }
  rw [get_append] at hg
  have hslot : ∀ t, t ∈ lp.ps.toList → t < tm0.size := fun t ht => by
   have := List.all_eq_true.1 hpl t ht
   rw [q2]; simpa [Nat.blt_eq] using this
  cases hz : get (zipG lp.ps.toList gs') t with
  | some g1 =>
   rw [hz] at hg
   cases hg
   obtain ⟨j, e1, e2⟩ := get_zipG hz
   obtain ⟨g0, e3, e4⟩ := v2 j _ e2
   have hj : j < vs.length := by have := (List.getElem?_eq_some_iff.1 e3).1; omega
   refine ⟨vs[j], ?_, lendG_spec hr.st hls (hrep j g0 _ e3 (List.getElem?_eq_getElem hj)) e4⟩
   rw [← htm']
   exact foldl_set_get _ _ _ j t _ (ndB_spec hpn) e1 (List.getElem?_eq_getElem hj) (hslot t (List.mem_of_getElem? e1))
  | none =>
   rw [hz, Option.none_or] at hg
   obtain ⟨j, e1, e2⟩ := get_zipG hg
   obtain ⟨g0, e3, e4⟩ := c2 j _ e2
   obtain ⟨v, hv0, hrv⟩ := q5 j t g0 e1 e3
   refine ⟨v, ?_, lendG_spec hr.st hls hrv e4⟩
   have hnot : t ∉ lp.ps.toList := fun ht => by
    obtain ⟨i, hi, rfl⟩ := List.getElem_of_mem ht
    have hlen : i < gs'.length := by rw [hps]; simpa using hi
    have key : ∀ (ts : List Nat) (gs : List G) (i : Nat) (hi : i < ts.length), i < gs.length → get (zipG ts gs) ts[i] ≠ none := by
     intro ts
     induction ts with
     | nil => intro gs i hi; cases hi
     | cons x r ih =>
      intro gs i hi hg
      cases gs with
      | nil => cases hg
      | cons y ys =>
       simp only [zipG, get_cons]
       cases i with
       | zero => simp [Nat.beq_refl]
       | succ i =>
        simp only [List.getElem_cons_succ]
        cases Nat.beq x (r[i]'(by simpa using hi)) with
        | true => simp
        | false => exact ih ys i (by simpa using hi) (by simpa using hg)
    exact key _ _ i hi hlen hz
   rw [← htm', (foldl_set _ _ _ t).2 hnot]
   exact hv0
 -- the assignments, the round's beginning, the body
 refine roundIn_of_wpIn trivial ?_
 have hA := hcon { cx0 (lendX cx s.st μ H false) stC (muC H μ) w with ro := some l } (muC H μ) { tmps := tm, defers := [] } w hstart
 refine wpIn_mono (show lp.assign.wpIn ((FF cx.ro).inRound l) 0 P _ _ _ from hA) fun e a1 w1 hq => ?_
 have hnorm : e = .normal := by
  cases e with
  | normal => rfl
  | outgrown => exact hq.elim
  | panic c => obtain ⟨_, _, _, _, _, hq, _⟩ := hq; exact hq
  | _ => obtain ⟨_, _, _, hq, _⟩ := hq; exact hq
 subst hnorm
 obtain ⟨μ1, s1, hr1, _, hB⟩ := hq
 have hw1 : w1.heap[l]? = some (.loop { state := .ready, pending := none, fn := D.2, tmps := tm0, params := lp.ps, assign := lp.assign, body := lp.body, defers := D.1 }) := (hr1.st.keep l hll hlA).trans q1
 refine ⟨_, run_beginRound hw1 rfl, ?_⟩
 generalize hbusy : (({ state := .busy, pending := none, fn := D.2, tmps := tm0, params := lp.ps, assign := lp.assign, body := lp.body, defers := D.1 } : Loop)) = busy
 have hs1 : Shut (fun b => b = l) w1 (w1.putObj l (.loop busy)) := Shut.put _ rfl hw1 rfl
 have hl1 := lt_of_heap hw1
 have hr2 : Rel lp.N { ({ cx0 (lendX cx s.st μ H false) stC (muC H μ) w with ro := some l } : Cx) with w0 := w.putObj l (.loop busy) } μ1 s1 a1 (w1.putObj l (.loop busy)) := by
  have hst2 := hr1.st.shut (w0 := w.putObj l (.loop busy)) hs1 (fun x k1 b m1 h1 h2 _ hz => (hr1.st.out x k1 b m1 h1 h2).1 (by rw [hz]; exact hlX)) ⟨rfl, rfl, rfl⟩ fun b hb hnA => by
   by_cases e : b = l
   · subst e; rw [World.putObj_heap_same hl1, World.putObj_heap_same hll]
   · rw [World.putObj_heap_other e, World.putObj_heap_other e]; exact hr1.st.keep b hb hnA
  refine { st := hst2, nd := ?_, sz := hr1.sz, fr := fun t g hg => let ⟨v, hv, hrv⟩ := hr1.fr t g hg; ⟨v, hv, hrv.shut hs1⟩ }
  refine DfRel.shut hr1.nd hs1 fun d hd D' e hz => ?_
  subst hz
  have key : ∀ {ds : List Deferred} {gs : List G} {O : Nat → Prop} {base : Nat}, DfRel O base w1 μ1 ds gs → d ∈ ds → ∃ x, w1.heap[D']? = some (.deferred x) := by
   intro ds gs O base hdf
   induction hdf with
   | nil => intro h; cases h
   | mark _ _ _ h4 _ _ ih =>
    intro hd
    rcases List.mem_cons.1 hd with rfl | hd
    · cases e; exact ⟨_, h4⟩
    · exact ih hd
   | clo _ _ ih =>
    intro hd
    rcases List.mem_cons.1 hd with rfl | hd
    · cases e
    · exact ih hd
  obtain ⟨x, hx⟩ := key hr1.nd hd
  rw [hw1] at hx; cases hx
 refine wpIn_mono (show lp.body.wpIn ((FF cx.ro).inRound l) 0 P _ _ _ from hB _ μ1 a1 _ hr2) fun e a3 w3 hq => ?_
 -- the round's end
 have fin : ∀ (μ3 : Mu) (s3 : St) (j : Option Code), RelSt { ({ cx0 (lendX cx s.st μ H false) stC (muC H μ) w with ro := some l } : Cx) with w0 := w.putObj l (.loop busy) } μ3 s3.st w3 → (∃ st', SubSt s3.st st' ∧ Q j st') →
   ∃ v w', (Instr.endRound l j).run P w3 = .ok v w' ∧ T (.returned v) w' := by
  rintro μ3 s3 j hr3 ⟨st', hsub, hQ⟩
  have hw3 : w3.heap[l]? = some (.loop busy) := (hr3.keep l hll hlA).trans (World.putObj_heap_same hll)
  have hl3 := lt_of_heap hw3
  refine ⟨_, _, run_endRound j hw3, ?_⟩
  have hr3 := hr3.sub hsub
  have hs3 : Shut (fun b => b = l) w3 (w3.putObj l (.loop { state := .ready, pending := none, fn := D.2, tmps := tm0, params := lp.ps, assign := lp.assign, body := lp.body, defers := D.1 })) := Shut.put _ rfl hw3 rfl
  have hr4 := (hr3.shut (w0 := w) hs3 (fun x k1 b m1 h1 h2 _ hz => (hr3.out x k1 b m1 h1 h2).1 (by rw [hz]; exact hlX)) ⟨rfl, rfl, rfl⟩ fun b hb hnA => by
   by_cases e : b = l
   · subst e; rw [World.putObj_heap_same hl3]; exact q1.symm
   · rw [World.putObj_heap_other e, hr3.keep b hb hnA]; exact World.putObj_heap_other e).ro none
  have := hT j st' μ3 _ hQ hr4 D tm0 (World.putObj_heap_same hl3)
  rw [putObj_twice] at this
  rw [← hbusy]
  exact this
 cases e with
 | normal => obtain ⟨μ3, s3, hr3, _, hq⟩ := hq; exact fin μ3 s3 none hr3.st hq
 | ret => obtain ⟨μ3, s3, hr3, _, hq⟩ := hq; exact fin μ3 s3 (some .ret) hr3.st hq
 | exit id => obtain ⟨μ3, s3, hr3, _, hq⟩ := hq; exact fin μ3 s3 (some (.exit id)) hr3.st hq
 | goto t => obtain ⟨_, _, _, _, _, _, hq⟩ := hq; exact hq.elim
 | panic c => obtain ⟨_, _, _, _, _, _, _, _, hq⟩ := hq; exact hq.elim
 | outgrown => exact hq.elim
theorem GL.yld {x : Operand} {xs : Array Operand} {ts : Array TypeId} {gs gs' cells' : List G} {stC : List (Nat × Blk)} {Q : Option Code → List (Nat × Blk) → Prop} {h : Nat} {k : Blk} {lp : Lp} (H bk : List Nat) (hx : ev s x = some (.yld h)) (hxs : evA s xs.toList = some gs) (hk : sget s.st h = some k) (hlp : k.lp = some lp)
  (hpend : lp.pend = none) (hh : idxH H h = none) (hv : lendG.go H [] gs = some gs') (hc : lendG.go H [] k.cells = some cells') (hl : lendSt H [] s.st H 0 = some stC) (hnd : ndB H = true) (hps : gs'.length = lp.ps.size) (hpn : ndB lp.ps.toList = true) (hpl : lp.ps.toList.all (Nat.blt · lp.N) = true)
  (hcon : GY P lp cells' gs' stC Q) (hw : wants ops s guard = some true) (hN : Nat.blt d N = true)
  (hres : ∀ j st', Q j st' → ∃ s2, backS false s H st' bk = some s2 ∧ ∃ k2, sget s2.st h = some k2 ∧ k2.lp = some lp ∧ ∃ b, j.isNone = b ∧ GL P N cx ops R rest (({ s2 with st := sset s2.st h { k2 with lp := some { lp with pend := j } } } : St).put d (.val (.bool b)))) :
  GL P N cx ops R (⟨some d, .call ⟨.value x, xs, ts⟩, ty, pos, after, guard⟩ :: rest) s := by
 intro μ a w hr
 unfold wpListIn
 rw [if_pos (wants_spec hr hw)]
 refine ⟨fun _ _ => trivial, ?_⟩
 rw [Oper.semAt_eq _ _ _ (fun _ h => by cases h)]
 obtain ⟨l, m, hm, hlpr⟩ := hr.loopAt hk hlp
 obtain ⟨e1, e2⟩ := evA_get hxs
 have hls : lendSt H (lendV s.st H false) s.st H 0 = some stC := hl
 have hxv : a.eval x = .func (.yield l) #[] #[] := by
  have hv := hr.ev hx
  generalize a.eval x = v at hv
  cases hv with
  | imm h => cases h
  | yld _ b m' hm' => rw [hm] at hm'; cases hm'; rfl
 obtain ⟨tm0, D, q1, hround⟩ := round_core (P := P) (vs := xs.toList.map a.eval) hr hk hlp hpend hm H hh hv hc hl hnd hps hpn hpl (by simp [e1]) (fun j g v hg hv => by
  obtain ⟨x, hxj, he⟩ := e2 j g hg
  rw [List.getElem?_map, hxj] at hv
  cases hv
  exact hr.ev he) hcon (T := fun
   | .returned v, w'' => wpListIn (FF cx.ro) 0 P ops (lift N cx R) rest (a.put (some d) v) w''
   | .panicked chain, w'' => lift N cx R (.panic chain) a w''
   | .outgrown, _ => LetsOut (lift N cx R)) (by
  intro j st' μ'' w3 hQ hC D tm hw3
  obtain ⟨s2, hb, k2, hk2, hk2l, b0, hb0, hgl⟩ := hres j st' hQ
  subst hb0
  obtain ⟨r1, _, _, _⟩ := back_rel hr hls (ndB_spec hnd) hC hb
  have hm2 : muB μ μ'' st' bk h = some (l, m) := by
   unfold muB
   have hbk : bkI st' bk h = none := by
    unfold backS at hb
    cases hok : bkOk s H st' bk && s.df.all (fun g => !(anyH (deads st' H 0) g)) with
    | false => rw [hok] at hb; cases hb
    | true =>
     simp only [Bool.and_eq_true] at hok
     cases hI : bkI st' bk h with
     | none => rfl
     | some j' =>
      rcases (bkOk_row hok.1 hI).2.2.2 with ⟨_, e⟩ | ⟨_, _, e | e⟩
      · exact absurd (mem_of_idx e) (idxH_none hh)
      · exact absurd e (idxH_none hh)
      · rw [(fresh_spec e).1] at hk; cases hk
   rw [hbk]
   exact hm
  have r2 := r1.setLoop hk2 hk2l hm2 j (D := D) (vs := tm) (by rw [hpend]; exact hw3)
  exact hgl _ _ _ (r2.put (by simpa [Nat.blt_eq] using hN) (.imm (.val _))))
 have hrun : (execOp a.eval ⟨some d, .call ⟨.value x, xs, ts⟩, ty, pos, after, guard⟩).run P w = .ok (.round l D.2 ((lp.ps.zip (xs.toList.map a.eval).toArray).foldl (fun tmps (t, a) => tmps.setIfInBounds t a) tm0) lp.assign lp.body) w := by
  have e : xs.map a.eval = (xs.toList.map a.eval).toArray := by rw [← Array.toList_map]
  have hy := run_yield (P := P) (args := (xs.toList.map a.eval).toArray) q1 (by
   have := (lendG_go hv).1
   simp only [List.size_toArray, List.length_map]
   omega)
  simp [execOp, resolve, invoke, Deferred.ofValue, hxv, e, hy]
 rw [hrun]
 exact ⟨(fun h => by cases h), hround⟩
end
end Go.AM
/-
 AM, part BE: the loop over a function.
-/
namespace Go.AM
section
variable {P : Program} {N : Nat} {cx : Cx} {s : St}
theorem Rel.allocO {μ : Mu} {a : Act} {w : World} (hr : Rel N cx μ s a w) {hd : Nat} (k : Blk) (o : Obj) (m : Nat) (hfr : fresh s hd = true)
    (hblk : ∀ O' μ', (∀ b, b < w.heap.size → ¬ cx.O s.st μ b → ¬ O' b) → (∀ y, y ≠ hd → μ' y = μ y) → RelBlk O' cx.base (w.alloc o) μ' k (some (w.heap.size, m))) :
    Rel N cx (upd μ hd (some (w.heap.size, m))) { fr := s.fr, st := (hd, k) :: s.st, df := s.df } a (w.alloc o) := by
  obtain ⟨f1, f2, f3, f4, f5⟩ := fresh_spec hfr
  have h := hr.st
  have hO : ∀ b, b < w.heap.size → ¬ cx.O s.st μ b → ¬ cx.O ((hd, k) :: s.st) (upd μ hd (some (w.heap.size, m))) b := by
    intro b hb hn ho
    rcases ho with ho | ⟨x, k', m', h1, h2⟩
    · exact hn (.inl ho)
    · by_cases e : x = hd
      · subst e; rw [upd_same] at h2; cases h2; omega
      · rw [sget_cons_other k _ e] at h1; rw [upd_other e] at h2; exact hn (.inr ⟨x, k', m', h1, h2⟩)
  have hlt : ∀ x k' b m', sget s.st x = some k' → μ x = some (b, m') → b < w.heap.size := fun x k' b m' h1 h2 => own_lt h ⟨x, k', m', h1, h2⟩
  have hkept := kept_alloc (cx.O s.st μ) w o
  refine { st := { blk := ?_, inj := ?_, out := ?_, pin := ?_, xlt := h.xlt, hb := ?_, os := h.os, tape := h.tape, output := h.output, keep := ?_ }, nd := ?_, sz := hr.sz, fr := ?_ }
  · intro x k' h1
    by_cases e : x = hd
    · subst e
      rw [sget_cons_same] at h1; cases h1
      rw [upd_same]
      exact hblk _ _ hO fun y hy => upd_other hy
    · rw [sget_cons_other k _ e] at h1
      rw [upd_other e]
      refine ((h.blk x k' h1).mono (fun b m hm => Go.RowKit.Below.heap_alloc w _ b (hlt x k' b m h1 hm)) hkept hO).remap fun hp g hg y hy => upd_other ?_
      intro e
      subst e
      rw [stNo_get f3 h1 hp hg] at hy
      cases hy
  · intro x x' k1 k2 b m1 m2 h1 h2 h3 h4
    by_cases e : x = hd
    · by_cases e' : x' = hd
      · rw [e, e']
      · subst e
        rw [upd_same] at h3; rw [upd_other e'] at h4; rw [sget_cons_other k _ e'] at h2
        cases h3
        have := hlt x' k2 _ m2 h2 h4
        omega
    · by_cases e' : x' = hd
      · subst e'
        rw [upd_same] at h4; rw [upd_other e] at h3; rw [sget_cons_other k _ e] at h1
        cases h4
        have := hlt x k1 _ m1 h1 h3
        omega
      · rw [sget_cons_other k _ e] at h1; rw [sget_cons_other k _ e'] at h2; rw [upd_other e] at h3; rw [upd_other e'] at h4
        exact h.inj x x' k1 k2 b m1 m2 h1 h2 h3 h4
  · intro x k' b m1 h1 h2
    by_cases e : x = hd
    · subst e
      rw [upd_same] at h2
      cases h2
      refine ⟨fun hx => ?_, .inl h.hb⟩
      have := h.xlt _ hx
      have := h.hb
      omega
    · rw [sget_cons_other k _ e] at h1; rw [upd_other e] at h2
      exact h.out x k' b m1 h1 h2
  · intro x k1 h1 h2
    by_cases e : x = hd
    · subst e; rw [not_pinned f5] at h2; cases h2
    · rw [sget_cons_other k _ e] at h1; rw [upd_other e]; exact h.pin x k1 h1 h2
  · simp only [World.size_alloc]; have := h.hb; omega
  · intro b hb hA
    rw [Go.RowKit.Below.heap_alloc w _ b (by have := h.hb; omega)]
    exact h.keep b hb hA
  · exact (hr.nd.mono hkept hO).remap (fun g hg y hy => upd_other fun e => by subst e; rw [dfNo_mem f4 hg] at hy; cases hy)
  · intro t g hg
    obtain ⟨v, hv, hrv⟩ := hr.fr t g hg
    refine ⟨v, hv, (hrv.mono hkept hO (Nat.le_refl _)).remap fun y hy => upd_other ?_⟩
    intro e
    subst e
    rw [frNo_get f2 hg] at hy
    cases hy
theorem Rel.marked {μ : Mu} {a : Act} {w : World} (hr : Rel N cx μ s a w) : Rel N cx μ s { a with defers := { target := .collected w.heap.size, args := #[] } :: a.defers } (w.alloc (.deferred (some []))) := by
  have hr1 := hr.kept (w' := w.alloc (.deferred (some []))) (by simp) (fun b hb => Go.RowKit.Below.heap_alloc w _ b hb) rfl rfl rfl
  refine { st := hr1.st, nd := .mark (D := w.heap.size) ?_ hr.st.hb (by simp) (World.alloc_heap_new _ _) ?_ hr1.nd, sz := hr1.sz, fr := hr1.fr }
  · rintro (ho | ho)
    · have := hr.st.xlt _ ho; have := hr.st.hb; omega
    · have := own_lt hr.st ho; omega
  · intro d hd e
    have key : ∀ {ds : List Deferred} {gs : List G} {O : Nat → Prop} {base : Nat}, DfRel O base w μ ds gs → d ∈ ds → ∀ D, d.target = .collected D → D < w.heap.size := by
      intro ds gs O base hdf
      induction hdf with
      | nil => intro h; cases h
      | mark _ _ h3 _ _ _ ih =>
        intro hd D e
        rcases List.mem_cons.1 hd with rfl | hd
        · cases e; exact h3
        · exact ih hd D e
      | clo _ _ ih =>
        intro hd D e
        rcases List.mem_cons.1 hd with rfl | hd
        · cases e
        · exact ih hd D e
    exact absurd (key hr.nd hd _ e) (Nat.lt_irrefl _)
def SubE (s s' : St) : Prop := (∀ t g, get s'.fr t = some g → get s.fr t = some g) ∧ (∀ t k, sget s'.st t = some k → sget s.st t = some k) ∧ s.df = s'.df
theorem Rel.subE {N : Nat} {cx : Cx} {μ : Mu} {s s' : St} {a : Act} {w : World} (h : Rel N cx μ s a w) (hs : SubE s s') : Rel N cx μ s' a w := by
 obtain ⟨hf, ho, hd⟩ := hs
 have hO : ∀ b, b < w.heap.size → ¬ cx.O s.st μ b → ¬ cx.O s'.st μ b := fun b _ hn ho' => hn (ho'.imp id fun ⟨x, k, m, h1, h2⟩ => ⟨x, k, m, ho _ _ h1, h2⟩)
 have hr := h.st
 refine { st := { blk := fun x k hk => (hr.blk x k (ho _ _ hk)).mono (fun _ _ _ => rfl) (Kept.refl _ _) hO, inj := fun x x' k k' b m m' h1 h2 h3 h4 => hr.inj x x' k k' b m m' (ho _ _ h1) (ho _ _ h2) h3 h4, out := fun x k b m h1 h2 => hr.out x k b m (ho _ _ h1) h2, pin := fun x k h1 h2 => hr.pin x k (ho _ _ h1) h2, xlt := hr.xlt, hb := hr.hb, os := hr.os, tape := hr.tape, output := hr.output, keep := hr.keep }, nd := hd ▸ h.nd.mono (Kept.refl _ _) hO, sz := h.sz, fr := ?_ }
 intro t g hg
 obtain ⟨v, hv, hrv⟩ := h.fr t g (hf _ _ hg)
 exact ⟨v, hv, hrv.mono (Kept.refl _ _) hO (Nat.le_refl _)⟩
theorem Rel.shutLoop {μ : Mu} {a : Act} {w : World} (hr : Rel N cx μ s a w) {h l m : Nat} {k : Blk} {s3 : St} {o o' : Obj} (hk : sget s.st h = some k) (hm : μ h = some (l, m)) (ho : w.heap[l]? = some o) (hc : isMem o = false) (hd : ∀ x, o ≠ .deferred x) (hb : cx.base ≤ l) (hs : SubE s s3) (hn : sget s3.st h = none) :
    Rel N cx μ s3 a (w.putObj l o') := by
  have h1 := hr.subE hs
  have hs' : Shut (fun b => b = l) w (w.putObj l o') := Shut.put _ rfl ho hc
  refine { st := h1.st.shut (w0 := cx.w0) hs' (fun x k1 b m1 q1 q2 _ hz => ?_) ⟨rfl, rfl, rfl⟩ (fun b hb' hA => ?_), nd := DfRel.shut h1.nd hs' fun d hd' D e hz => ?_, sz := h1.sz, fr := fun t g hg => let ⟨v, hv, hrv⟩ := h1.fr t g hg; ⟨v, hv, hrv.shut hs'⟩ }
  · subst hz
    have := hr.st.inj x h k1 k b m1 m (hs.2.1 _ _ q1) hk q2 hm
    subst this
    rw [hn] at q1; cases q1
  · rw [World.putObj_heap_other (by omega)]; exact h1.st.keep b hb' hA
  · subst hz
    have key : ∀ {ds : List Deferred} {gs : List G} {O : Nat → Prop} {base : Nat}, DfRel O base w μ ds gs → d ∈ ds → ∃ x, w.heap[D]? = some (.deferred x) := by
      intro ds gs O base hdf
      induction hdf with
      | nil => intro h; cases h
      | mark _ _ _ h4 _ _ ih =>
        intro hd
        rcases List.mem_cons.1 hd with rfl | hd
        · cases e; exact ⟨_, h4⟩
        · exact ih hd
      | clo _ _ ih =>
        intro hd
        rcases List.mem_cons.1 hd with rfl | hd
        · cases e
        · exact ih hd
    obtain ⟨x, hx⟩ := key h1.nd hd'
    rw [ho] at hx
    exact hd x (Option.some.inj hx)
def loopB (cells : List G) (lp : Lp) : Blk := ⟨0, false, false, false, 0, cells, some lp⟩
def LoopR (R : Exit → St → Prop) (s : St) : Option Code → Prop
 | none => R .normal s
 | some .ret => R .ret s
 | some (.exit id) => R (.exit id) s
 | _ => False
def getAll (fr : List (Nat × G)) : List Nat → Option (List G)
 | [] => some []
 | t :: r => match get fr t, getAll fr r with
  | some g, some gs => some (g :: gs)
  | _, _ => none
theorem getAll_get {fr : List (Nat × G)} : ∀ {ts : List Nat} {gs : List G}, getAll fr ts = some gs → ∀ {j : Nat} {g : G}, gs[j]? = some g → ∃ t, ts[j]? = some t ∧ get fr t = some g
 | [], _, h, j, g, e => by cases h; simp at e
 | t :: r, gs, h, j, g, e => by
  simp only [getAll] at h
  cases h1 : get fr t with
  | none => rw [h1] at h; cases h
  | some g1 =>
   rw [h1] at h
   cases h2 : getAll fr r with
   | none => rw [h2] at h; cases h
   | some r1 =>
    rw [h2] at h
    cases h
    cases j with
    | zero => cases e; exact ⟨t, rfl, h1⟩
    | succ j => exact getAll_get h2 e
theorem RepV.cloInv {O : Nat → Prop} {base : Nat} {w : World} {μ : Mu} {f : FuncId} {caps : List G} {v : Value} (h : RepV O base w μ (.clo f caps) v) :
  ∃ us : List Value, v = .func (.func f) #[] us.toArray ∧ us.length = caps.length ∧ ∀ (j : Nat) (g : G) (v : Value), caps[j]? = some g → us[j]? = some v → RepV O base w μ g v := by
 cases h with
 | imm h => cases h
 | clo _ _ us hl hr => exact ⟨us, rfl, hl, hr⟩
theorem GW.rangeFunc {g : Operand} {ps : Array Tmp} {asg body : Code} {f : FuncId} {caps cells gs' : List G} {stC : List (Nat × Blk)} {Q : G → List (Nat × Blk) → Prop} {f0 : FuncId} {R : Exit → St → Prop} (hro : cx.ro = none) (lp : Option Code → Lp) (hd : Nat) (slots : List Nat) (H : List Nat) (vw : Bool) (bk : List Nat)
    (hlp : ∀ j, lp j = ⟨f0, N, slots, ps, asg, body, j⟩) (hg : ev s g = some (.clo f caps)) (hc : ∀ args w, (callFunc f args).run P w = .ok (.enter f args) w) (hcells : getAll s.fr slots = some cells) (hfr : fresh s hd = true)
    (hl : lendSt H (lendV ((hd, loopB cells (lp none)) :: s.st) H vw) ((hd, loopB cells (lp none)) :: s.st) H 0 = some stC) (hnd : ndB H = true) (hdH : hd ∈ H) (hcon : GM P f gs' stC Q)
    (hv : lendG.go H (lendV ((hd, loopB cells (lp none)) :: s.st) H vw) (.yld hd :: caps) = some gs')
    (hres : ∀ r st', Q r st' → ∃ s2 s3 j k2, backS vw { fr := s.fr, st := (hd, loopB cells (lp none)) :: s.st, df := s.df } H st' bk = some s2 ∧ (deads st' H 0).contains hd = false ∧ sget s2.st hd = some k2 ∧ k2.lp = some (lp j) ∧ SubE s2 s3 ∧ sget s3.st hd = none ∧ LoopR R s3 j) :
    GW P N cx (.rangeFunc g ps asg body) R s := by
  intro μ a w hr
  refine wpIn_rangeFunc ?_
  intro fn _
  have hround : (FF cx.ro).round = none := hro
  rw [hround]
  obtain ⟨us, hav, hlu, _⟩ := (hr.ev hg).cloInv
  refine ⟨w.heap.size + 1, _, (w.alloc (.deferred (some []))).alloc (.loop { state := .ready, pending := none, fn := fn, tmps := a.tmps, params := ps, assign := asg, body := body, defers := w.heap.size }), { target := .fn (.func f) us.toArray, args := #[.func (.yield (w.heap.size + 1)) #[] #[]] }, (w.alloc (.deferred (some []))).alloc (.loop { state := .ready, pending := none, fn := fn, tmps := a.tmps, params := ps, assign := asg, body := body, defers := w.heap.size }), f, #[.func (.yield (w.heap.size + 1)) #[] #[]] ++ us.toArray, (w.alloc (.deferred (some []))).alloc (.loop { state := .ready, pending := none, fn := fn, tmps := a.tmps, params := ps, assign := asg, body := body, defers := w.heap.size }), run_enterLoop_outer _ _ _ _ _, ?_, fun _ _ => trivial, ?_, fun h => (by cases h), ?_⟩
  · simp only [resolve, hav]
    simp [go_sem]
  · simp [invoke, go_sem, hc]
  · -- the new record
    generalize hW : (w.alloc (.deferred (some []))).alloc (.loop { state := .ready, pending := none, fn := fn, tmps := a.tmps, params := ps, assign := asg, body := body, defers := w.heap.size }) = W1
    have hr1 := hr.marked
    have hsz1 : (w.alloc (.deferred (some []))).heap.size = w.heap.size + 1 := by simp
    have hr2 := hr1.allocO (hd := hd) (loopB cells (lp none)) (.loop { state := .ready, pending := none, fn := fn, tmps := a.tmps, params := ps, assign := asg, body := body, defers := w.heap.size }) 0 hfr (fun O' μ' hO hμ => by
      unfold RelBlk
      simp only [loopB]
      refine ⟨(w.heap.size, fn), a.tmps, ?_, ?_, rfl, rfl, fun j t g ht hg => ?_⟩
      · rw [hlp]; exact World.alloc_heap_new _ _
      · rw [hlp]; exact hr.sz
      · rw [hlp] at ht
        obtain ⟨t', e1, e2⟩ := getAll_get hcells hg
        rw [ht] at e1
        cases e1
        obtain ⟨v, hv, hrv⟩ := hr1.fr t g e2
        refine ⟨v, hv, (hrv.mono (kept_alloc _ _ _) hO (Nat.le_refl _)).remap fun y hy => hμ y fun e => ?_⟩
        subst e
        rw [frNo_get (fresh_spec hfr).2.1 e2] at hy; cases hy)
    rw [hW, hsz1] at hr2
    have hgv2 := hr2.ev (x := g) (g := .clo f caps) (by cases g <;> exact hg)
    rw [show ({ a with defers := { target := .collected w.heap.size, args := #[] } :: a.defers } : Act).eval g = .func (.func f) #[] us.toArray from hav] at hgv2
    obtain ⟨us', e1, _, hrc⟩ := hgv2.cloInv
    have e2 : us' = us := by
      injection e1 with _ _ e3
      have := congrArg Array.toList e3
      simpa using this.symm
    subst e2
    -- the call
    have hcall := lend_core (P := P) (f := f) (vs := .func (.yield (w.heap.size + 1)) #[] #[] :: us') hr2 hv hl hnd (by simp [hlu]) (fun j g v hg hv => by
      cases j with
      | zero => cases hg; cases hv; exact .yld hd _ 0 (upd_same _ _ _)
      | succ j => exact hrc j g v hg hv) hcon
    have hargs : (Value.func (.yield (w.heap.size + 1)) #[] #[] :: us').toArray = #[.func (.yield (w.heap.size + 1)) #[] #[]] ++ us'.toArray := by simp
    rw [hargs] at hcall
    refine callsIn_FF.2 (hcall.mono ?_)
    rintro e w2 (⟨v, r, st', μ'', rfl, hq, hC, _⟩ | ⟨_, _, _, _, h, _⟩)
    rotate_left
    · exact h.elim
    obtain ⟨s2, s3, j, k2, hb, hdd, hk2, hk2l, hsub, hn3, hR⟩ := hres r st' hq
    obtain ⟨r2, _, _, r4⟩ := back_rel hr2 hl (ndB_spec hnd) hC hb
    have hm2 := r4 hd hdH (by simpa using hdd)
    rw [upd_same] at hm2
    obtain ⟨l, m, hm3, D, vs, q1, q2, _, _, _⟩ := r2.loopAt hk2 hk2l
    rw [hm2] at hm3
    cases hm3
    have hend := run_endLoop (P := P) q1 (by cases (lp j).pend <;> simp)
    refine ⟨_, _, hend, ?_⟩
    have r5 := r2.shutLoop (o' := .loop { state := .exhausted, pending := (lp j).pend, fn := D.2, tmps := vs, params := (lp j).ps, assign := (lp j).assign, body := (lp j).body, defers := D.1 }) hk2 hm2 q1 rfl (fun x h => by cases h) (by have := hr.st.hb; omega) hsub hn3
    have hpend : (lp j).pend = j := by rw [hlp]
    simp only [hpend] at r5 ⊢
    cases j with
    | none => exact ⟨_, s3, r5, hR⟩
    | some c =>
      cases c with
      | ret => exact wpIn_ret ⟨_, s3, r5, hR⟩
      | exit id => exact wpIn_exit ⟨_, s3, r5, hR⟩
      | _ => exact hR.elim
end
end Go.AM
/-
 AM, part BF: how a round was left, as data; lists of a callee's own; structs in slices of the call's own.
-/
namespace Go.AM
inductive Jp where
 | go
 | ex
 | rt
 deriving DecidableEq
def Jp.isRt : Jp → Bool
 | .rt => true
 | _ => false
def jmpc (id : Nat) : Jp → Option Code
 | .go => none
 | .ex => some (.exit id)
 | .rt => some .ret
theorem LoopR.rt {R : Exit → St → Prop} {s : St} {id : Nat} {j : Jp} (hj : j.isRt = true) (h : R .ret s) : LoopR R s (jmpc id j) := by
 cases j with
 | rt => exact h
 | _ => cases hj
section
variable {P : Program} {N : Nat} {cx : Cx} {Q : Exit → St → Prop} {s : St} {ops : Array Oper} {rest : List Oper}
theorem st_eta {s : St} {hh : Nat} {k : Blk} {lp : Lp} (hk : sget s.st hh = some k) (hl : k.lp = some lp) (hp : lp.pend = none) (μ : Mu) (a : Act) (w : World) (hr : Rel N cx μ s a w) :
  Rel N cx μ { s with st := sset s.st hh { k with lp := some { lp with pend := none } } } a w := by
 have e : ({ k with lp := some { lp with pend := none } } : Blk) = k := by
  obtain ⟨_, _, _, _, _, _, l⟩ := k
  simp only at hl
  subst hl
  obtain ⟨_, _, _, _, _, _, _⟩ := lp
  simp only at hp
  subst hp
  rfl
 have e2 : ∀ (st : List (Nat × Blk)), sget st hh = some k → sset st hh k = st := by
  intro st
  induction st with
  | nil => intro h; cases h
  | cons x r ih =>
   obtain ⟨y, k'⟩ := x
   intro h
   simp only [sget] at h
   simp only [sset]
   cases hb : Nat.beq y hh with
   | true => rw [hb] at h; cases h; rfl
   | false => rw [hb] at h; rw [cond_false, ih h]
 rw [e, e2 s.st hk]
 exact hr
theorem GL.pend (hh : Nat) {k : Blk} {lp : Lp} (hk : sget s.st hh = some k) (hl : k.lp = some lp) (hp : lp.pend = none) (h : GL P N cx ops Q rest { s with st := sset s.st hh { k with lp := some { lp with pend := none } } }) : GL P N cx ops Q rest s :=
 fun μ a w hr => h μ a w (st_eta hk hl hp μ a w hr)
theorem GW.pend {c : Code} (hh : Nat) {k : Blk} {lp : Lp} (hk : sget s.st hh = some k) (hl : k.lp = some lp) (hp : lp.pend = none) (h : GW P N cx c Q { s with st := sset s.st hh { k with lp := some { lp with pend := none } } }) : GW P N cx c Q s :=
 fun μ a w hr => h μ a w (st_eta hk hl hp μ a w hr)
end
section
variable {α : Type} [Enc α]
variable {P : Program} {N : Nat} {cx : Cx} {Q : Exit → St → Prop} {s : St} {ops : Array Oper} {rest : List Oper}
theorem GW.refresh [Flat α] {c : Code} (hh : Nat) {k : Blk} {l : List α} (hk : sget s.st hh = some k) (hc : k.cells = encs l) (hp : k.pure = true) (h : GW P N cx c Q { fr := s.fr, st := sset s.st hh { k with fresh := true }, df := s.df }) (hlp : k.lp = none := by rfl) : GW P N cx c Q s :=
 fun μ a w hr => h μ a w (hr.refresh hk hc hp hlp)
variable {W : List Nat} {dst : Option Tmp} {ty : TypeId} {pos : String} {after : Array Edge} {guard : Option (Nat × Bool)}
theorem encs_setS {l : List α} {i : Nat} (x : α) (h : i < l.length) : (encs l).take (0 + i * Enc.sz α) ++ Enc.cells x ++ (encs l).drop (0 + i * Enc.sz α + Enc.sz α) = encs (l.set i x) := by
 have e : 0 + i * Enc.sz α + Enc.sz α = (i + 1) * Enc.sz α := by rw [Nat.zero_add, Nat.add_mul, Nat.one_mul]
 rw [e, encs_drop, Nat.zero_add, encs_take, List.set_eq_take_append_cons_drop, if_pos h, encs_append, encs_cons, List.append_assoc]
theorem encs_setJ {l : List α} {i j : Nat} {x x' : α} {g : G} (h : l[i]? = some x) (hj : j < Enc.sz α) (hx : Enc.cells x' = (Enc.cells x).set j g) : (encs l).set (0 + i * Enc.sz α + j) g = encs (l.set i x') := by
  rw [Nat.zero_add]
  apply List.ext_getElem?
  intro n
  have hil := (List.getElem?_eq_some_iff.1 h).1
  rw [List.getElem?_set]
  have hset : encs (l.set i x') = (encs l).take (0 + i * Enc.sz α) ++ Enc.cells x' ++ (encs l).drop (0 + i * Enc.sz α + Enc.sz α) := (encs_setS x' hil).symm
  rw [hset, hx, List.append_assoc, List.getElem?_append, List.length_take, encs_length, Nat.zero_add]
  have hm : i * Enc.sz α + Enc.sz α ≤ l.length * Enc.sz α := by rw [← Nat.succ_mul]; exact Nat.mul_le_mul_right _ hil
  rw [Nat.min_eq_left (by omega)]
  by_cases e : i * Enc.sz α + j = n
  · rw [if_pos e, if_pos (by omega), if_neg (by omega), List.getElem?_append, List.length_set, Enc.len, if_pos (by omega), List.getElem?_set, if_pos (by omega), if_pos (by rw [Enc.len]; omega)]
  · rw [if_neg e]
    split
    · rename_i h1; rw [List.getElem?_take, if_pos h1]
    · rename_i h1
      rw [List.getElem?_append, List.length_set, Enc.len]
      split
      · rename_i h2
        rw [List.getElem?_set, if_neg (by omega), ← encs_get h (by omega)]
        congr 1; omega
      · rename_i h2
        rw [List.getElem?_drop]
        congr 1; omega
end
end Go.AM
/-
 AM, part BG: make of elements of any make.
-/
namespace Go.AM
section
variable {α : Type} [Enc α]
variable {P : Program} {N : Nat} {cx : Cx} {s : St} {W : List Nat} {d : Nat}
variable {ty : TypeId} {pos : String} {after : Array Edge} {guard : Option (Nat × Bool)}
variable {dst : Option Tmp}
end
end Go.AM
/-
 AM, part BH: a slice of the call's own in the place of one that was lent.
-/
namespace Go.AM
section
variable {P : Program} {N : Nat} {cx : Cx} {Q : Exit → St → Prop} {s : St} {ops : Array Oper} {rest : List Oper}
theorem SubSt.trans {a b : List (Nat × Blk)} (h : SubSt a b) : ∀ {c : List (Nat × Blk)}, SubSt b c → SubSt a c
 | [], _ => trivial
 | (t, g) :: r, hc => ⟨h.get hc.1, h.trans hc.2⟩
theorem RoundQ.weak {Qr : Option Code → List (Nat × Blk) → Prop} {e : Exit} {s s' : St} (h : Sub s s') (hq : RoundQ Qr e s') : RoundQ Qr e s := by
 obtain ⟨h1, st', h2, h3⟩ := hq
 exact ⟨h.2.2.trans h1, st', h.2.1.trans h2, h3⟩
variable {dst : Option Tmp} {ty : TypeId} {pos : String} {after : Array Edge} {guard : Option (Nat × Bool)}
theorem PY.capN {t e : TypeId} {x : Operand} (hx : ev s x = some (.val (.slice none 0 0))) (ht : P.underlying t = some (.slice e)) : PY P s ⟨dst, .call ⟨.builtin .cap, #[x], #[t]⟩, ty, pos, after, guard⟩ (.val (.int .i64 0)) := fun _ _ _ a w hrel => by
 refine ⟨_, .imm (.val _), fun w' => ?_⟩
 simp [execOp, resolve, invoke, builtin, Builtin.cap_, hrel.val hx, run_underlying ht, goInt]
theorem PY.sliceN {α : Type} [Enc α] {t e : TypeId} {x hi : Operand} {k : IntKind} (hx : ev s x = some (.val (.slice none 0 0))) (hh : ev s hi = some (.val (.int k 0))) (ht : P.underlying t = some (.slice e)) (hsz : ∀ w, (sizeOf e).run P w = .ok (Enc.sz α) w) :
  PY P s ⟨dst, .slice t x none (some hi) none, ty, pos, after, guard⟩ (.val (.slice none 0 0)) := fun N cx μ a w hr => by
 refine ⟨_, .imm (.val _), fun w' => ?_⟩
 have := run_part_h (α := α) (P := P) ht hsz (k := k) none 0 0 (Int.le_refl 0) (Int.le_refl 0) w'
 simp [execOp, hr.val hx, hr.val hh, this, sliced]
end
end Go.AM
/-
 AM, part BI: make with a capacity; an append of a make to the nil slice.
-/
namespace Go.AM
section
variable {P : Program}
theorem run_append_zeros (w : World) (t u ty e : TypeId) (i : TypeInfo) (z : Value) (k : IntKind) (ku : IntKind) (ht : P.underlying t = some (.slice e)) (hu : P.underlying u = some (.int ku)) (hi : P.info? e = some i) (hz : i.zero = some z)
  (n : Int) (h0 : 0 < n) (hsz : 0 < i.size) (h63 : n ≤ 9223372036854775807) (h48 : n * i.bytes ≤ 281474976710656) :
  (Builtin.append_ #[t, u] ty #[.slice none 0 0, .int k n]).run P w =
   .ok (.slice (some ⟨w.heap.size, 0, none⟩) n.toNat (grownCap w n.toNat 0 e)) (w.drew.alloc (.cells (Builtin.zeroCells z.cells n.toNat ++ Builtin.zeroCells z.cells (grownCap w n.toNat 0 e - n.toNat)) e)) := by
 have hw : IntKind.i64.wrap n = n := IntWalk.i64_in n ⟨by omega, by omega⟩
 have hn : ¬ n < 0 := by omega
 have hn2 : n.toNat ≠ 0 := by omega
 have h63' : ¬ (9223372036854775807 < (n.toNat : Int)) := by omega
 have hle : ¬ n ≤ 0 := by omega
 have hmax : ¬ (9223372036854775807 < max n 0) := by omega
 have hb : ¬ (281474976710656 < n * i.bytes) := by omega
 have h48' : ¬ (281474976710656 < Builtin.nextslicecap n.toNat 0 * i.bytes) := by
  rw [nextslicecap_zero (by omega)]
  have : ((n.toNat * i.bytes : Nat) : Int) = n * i.bytes := by rw [Int.natCast_mul, Int.toNat_of_nonneg (by omega)]
  omega
 have hmul : ¬ (n.toNat * i.size = 0) := by
  rw [Nat.mul_eq_zero]; omega
 simp [Builtin.append_, run_underlying ht, run_underlying hu, sizeOf, typeInfo, zeroValue, hi, hz, asInt, asIntOf, hw, hle, hmax, hn, hb, hn2, h63', h48', Question.forced, run_firstCells_none, newRow, grownCap]
 exact fun h => absurd h hmul
end
section
variable {α : Type} [Enc α]
variable {P : Program} {N : Nat} {cx : Cx} {s : St} {W : List Nat} {d : Nat}
variable {ty : TypeId} {pos : String} {after : Array Edge} {guard : Option (Nat × Bool)}
theorem made_cells {O : Nat → Prop} {base : Nat} {w : World} {μ : Mu} {x : α} {z : Value} {e : TypeId} {m : Nat} {cs : Array Value} (hzs : z.cells.size = Enc.sz α) (he : z.cells.toList.map viewV = Enc.cells x)
    (hcs : ∀ j, j < m * Enc.sz α → cs[j]? = (madeCells z.cells (m * Enc.sz α))[j]?) (j : Nat) (g' : G) (hg' : (encs (List.replicate m x))[j]? = some g') :
    ∃ v, cs[j]? = some v ∧ RepC O base w μ ⟨e, true, true, true, Enc.sz α, encs (List.replicate m x), none⟩ g' v := by
  have hpos : 0 < Enc.sz α := Enc.pos
  unfold encs at hg'
  rw [flatMap_get Enc.cells (Enc.sz α) hpos (List.replicate m x) (fun a _ => Enc.len a) j, List.getElem?_replicate] at hg'
  split at hg'
  · rename_i hj
    simp only [Option.bind_some] at hg'
    rw [← he, List.getElem?_map] at hg'
    have hlt : j % Enc.sz α < z.cells.toList.length := by rw [Array.length_toList, hzs]; exact Nat.mod_lt _ hpos
    rw [List.getElem?_eq_getElem hlt] at hg'
    cases hg'
    have hjn : j < m * Enc.sz α := (Nat.div_lt_iff_lt_mul hpos).1 hj
    refine ⟨z.cells.toList[j % Enc.sz α], ?_, ?_⟩
    · rw [hcs j hjn]
      have hmod : j % z.cells.size = j % Enc.sz α := by rw [hzs]
      rw [Array.length_toList] at hlt
      simp [madeCells, hjn, hmod, hlt]
    · unfold RepC
      exact viewV_rep _
  · cases hg'
theorem ET.makeC {x : α} {t e : TypeId} {xo yo : Operand} {z : Value} {bt sz : Nat} {k k' : IntKind} {n c : Int} (hd : Nat) (hx : ev s xo = some (.val (.int k n))) (hy : ev s yo = some (.val (.int k' c)))
  (ht : P.underlying t = some (.slice e)) (hi : (P.info? e).map (fun i => (i.zero, i.size, i.bytes)) = some (some z, sz, bt)) (hzs : z.cells.size = sz) (hsz : Enc.sz α = sz) (he : z.cells.toList.map viewV = Enc.cells x)
  (h0 : 0 ≤ n) (hnc : n ≤ c) (hb : (bt : Int) * c ≤ 281474976710656) (h63 : c ≤ 9223372036854775807) (hfr : fresh s hd = true) :
  Effect P W s ⟨some d, .makeSlice t xo yo, ty, pos, after, guard⟩ (· = { fr := (d, .osl hd (Enc.sz α) 0 (List.replicate n.toNat x).length) :: s.fr, st := (hd, ⟨e, true, true, true, Enc.sz α, encs (List.replicate n.toNat x), none⟩) :: s.st, df := s.df }) := by
 subst hsz
 refine Effect.of (s1 := { fr := s.fr, st := (hd, ⟨e, true, true, true, Enc.sz α, encs (List.replicate n.toNat x), none⟩) :: s.st, df := s.df }) (g := .osl hd (Enc.sz α) 0 (List.replicate n.toNat x).length) rfl (fun _ h => by cases h) ?_
 intro N cx μ a w hr
 obtain ⟨i, hi1, hi2⟩ := Option.map_eq_some_iff.1 hi
 simp only [Prod.mk.injEq] at hi2
 obtain ⟨hz, hs1, hb1⟩ := hi2
 have hms : (madeCells z.cells (c.toNat * i.size)).size = c.toNat * Enc.sz α := by rw [size_madeCells, hs1]
 have hle : n.toNat * Enc.sz α ≤ c.toNat * Enc.sz α := Nat.mul_le_mul_right _ (by omega)
 obtain ⟨μ', w', rfl, h1, h2, h3⟩ := hr.allocNew (k := ⟨e, true, true, true, Enc.sz α, encs (List.replicate n.toNat x), none⟩) (cs := madeCells z.cells (c.toNat * i.size)) hfr rfl (by rw [hms]; simp only [encs_length, List.length_replicate]; exact hle)
  (fun _ => by rw [hms]; exact Nat.mul_le_mul_right _ (by unfold maxLen; omega))
  (fun j g' hg' => made_cells hzs he (fun j hj => by
   rw [hs1]
   have h5 : j < c.toNat * Enc.sz α := Nat.lt_of_lt_of_le hj hle
   simp [madeCells, hj, h5]) j g' hg')
  (fun h => by cases h) W
 have hrun := run_make (P := P) w t e i z ht hi1 hz k k' n c h0 hnc (by rw [hb1]; exact hb) h63
 rw [hms] at h2
 refine ⟨_, μ', _, ?_, h1, .osl hd (Enc.sz α) 0 _ _ _ c.toNat h2 (by simp; omega) (by simp), h3⟩
 simp [execOp, hr.val hx, hr.val hy, hrun]
theorem ET.appendZ {x : α} {t u e : TypeId} {xo yo : Operand} {z : Value} {bt sz : Nat} {k ku : IntKind} {n : Int} (hd : Nat) (hx : ev s xo = some (.val (.slice none 0 0))) (hy : ev s yo = some (.val (.int k n)))
  (ht : P.underlying t = some (.slice e)) (hu : P.underlying u = some (.int ku)) (hi : (P.info? e).map (fun i => (i.zero, i.size, i.bytes)) = some (some z, sz, bt)) (hzs : z.cells.size = sz) (hsz : Enc.sz α = sz) (he : z.cells.toList.map viewV = Enc.cells x)
  (h0 : 0 < n) (hb : n * (bt : Int) ≤ 281474976710656) (h63 : n ≤ 9223372036854775807) (hfr : fresh s hd = true) :
  Effect P W s ⟨some d, .call ⟨.builtin .append, #[xo, yo], #[t, u]⟩, ty, pos, after, guard⟩ (· = { fr := (d, .osl hd (Enc.sz α) 0 (List.replicate n.toNat x).length) :: s.fr, st := (hd, ⟨e, true, true, true, Enc.sz α, encs (List.replicate n.toNat x), none⟩) :: s.st, df := s.df }) := by
 subst hsz
 refine Effect.of (s1 := { fr := s.fr, st := (hd, ⟨e, true, true, true, Enc.sz α, encs (List.replicate n.toNat x), none⟩) :: s.st, df := s.df }) (g := .osl hd (Enc.sz α) 0 (List.replicate n.toNat x).length) rfl (fun _ h => by cases h) ?_
 intro N cx μ a w hr
 obtain ⟨i, hi1, hi2⟩ := Option.map_eq_some_iff.1 hi
 simp only [Prod.mk.injEq] at hi2
 obtain ⟨hz, hs1, hb1⟩ := hi2
 have hpos : 0 < Enc.sz α := Enc.pos
 have hge := grownCap_ge w n.toNat 0 e
 have hcm := grownCap_le_maxLen w n.toNat 0 e (by unfold maxLen; omega)
 have hms : (Builtin.zeroCells z.cells n.toNat ++ Builtin.zeroCells z.cells (grownCap w n.toNat 0 e - n.toNat)).size = grownCap w n.toNat 0 e * Enc.sz α := by
  rw [Array.size_append, size_zeroCells, size_zeroCells, hzs, ← Nat.add_mul]
  congr 1
  omega
 obtain ⟨μ', w', rfl, h1, h2, h3⟩ := hr.drew.allocNew (k := ⟨e, true, true, true, Enc.sz α, encs (List.replicate n.toNat x), none⟩) (cs := Builtin.zeroCells z.cells n.toNat ++ Builtin.zeroCells z.cells (grownCap w n.toNat 0 e - n.toNat)) hfr rfl (by rw [hms]; simp only [encs_length, List.length_replicate]; exact Nat.mul_le_mul_right _ hge)
  (fun _ => by rw [hms]; exact Nat.mul_le_mul_right _ hcm)
  (fun j g' hg' => made_cells hzs he (fun j hj => by
   rw [Array.getElem?_append_left (by rw [size_zeroCells, hzs]; exact hj)]
   unfold Builtin.zeroCells madeCells
   rw [hzs]) j g' hg')
  (fun h => by cases h) W
 have hrun := run_append_zeros (P := P) w t u ty e i z k ku ht hu hi1 hz n h0 (by rw [hs1]; exact hpos) h63 (by rw [hb1]; exact hb)
 rw [hms] at h2
 refine ⟨_, μ', _, ?_, h1, .osl hd (Enc.sz α) 0 _ _ _ (grownCap w n.toNat 0 e) h2 (by simp; omega) (by simp), ⟨h3.1, h3.2, h3.3⟩⟩
 simp [execOp, resolve, invoke, builtin, hr.val hx, hr.val hy, hrun]
end
section
variable {P : Program} {s : St} {W : List Nat} {d : Nat} {ty : TypeId} {pos : String} {after : Array Edge} {guard : Option (Nat × Bool)}
def wr : List Bool → List G → List G
 | true :: bs, .val v :: r => .fr (.val v) :: wr bs r
 | _ :: bs, g :: r => g :: wr bs r
 | [], r => r
 | _ :: _, [] => []
theorem wr_spec : ∀ (bs : List Bool) (gs : List G), (wr bs gs).length = gs.length ∧ ∀ (j : Nat) (g' : G), (wr bs gs)[j]? = some g' → ∃ g, gs[j]? = some g ∧ (g' = g ∨ ∃ v, g = .val v ∧ g' = .fr (.val v))
 | [], gs => by
  unfold wr
  exact ⟨rfl, fun j g' h => ⟨g', h, .inl rfl⟩⟩
 | b :: bs, [] => by cases b <;> exact ⟨rfl, fun j g' h => by simp [wr] at h⟩
 | b :: bs, g :: r => by
  obtain ⟨i1, i2⟩ := wr_spec bs r
  have key : ∀ x, (x = g ∨ ∃ v, g = .val v ∧ x = .fr (.val v)) → (x :: wr bs r).length = (g :: r).length ∧ ∀ (j : Nat) (g' : G), (x :: wr bs r)[j]? = some g' → ∃ g0, (g :: r)[j]? = some g0 ∧ (g' = g0 ∨ ∃ v, g0 = .val v ∧ g' = .fr (.val v)) := by
   intro x hx
   refine ⟨by simp [i1], fun j g' h => ?_⟩
   cases j with
   | zero => cases h; exact ⟨g, rfl, hx⟩
   | succ j => exact i2 j g' h
  cases b with
  | false => unfold wr; exact key g (.inl rfl)
  | true =>
   cases g with
   | val v => unfold wr; exact key _ (.inr ⟨v, rfl, rfl⟩)
   | _ => unfold wr; exact key _ (.inl rfl)
theorem EF.lendW (bs : List Bool) {f : FuncId} {xs : Array Operand} {ts : Array TypeId} {gs gs' : List G} {stC : List (Nat × Blk)} {Q : G → List (Nat × Blk) → Prop} {s1 : St} (H : List Nat) (vw : Bool) (bk : List Nat) (hc : ∀ args w, (callFunc f args).run P w = .ok (.enter f args) w)
    (hx : evA s xs.toList = some gs) (hv : lendG.go H (Go.AM.lendV s.st H vw) (wr bs gs) = some gs') (hl : lendSt H (Go.AM.lendV s.st H vw) s.st H 0 = some stC) (hnd : ndB H = true) (hcon : GM P f gs' stC Q)
    (hres : ∀ r st', Q r st' → ∃ s2 r', backS vw s H st' bk = some s2 ∧ renG vw (bkH st' bk) r = some r' ∧ Sub (s2.put d r') s1) (hW : allIn H W = true) :
    Effect P W s ⟨some d, .call ⟨.value (.func f), xs, ts⟩, ty, pos, after, guard⟩ (· = s1) := by
  refine ⟨(fun _ h => by cases h), ?_⟩
  intro N cx μ a w hr hN K Q' hK
  obtain ⟨h1, h2⟩ := evA_get hx
  have hcall := lend_core (vs := xs.toList.map a.eval) hr hv hl hnd (by rw [(wr_spec bs gs).1]; simp [h1]) (fun j g' v hg' hv => by
    obtain ⟨g, hg, hor⟩ := (wr_spec bs gs).2 j g' hg'
    obtain ⟨x, hxj, he⟩ := h2 j g hg
    rw [List.getElem?_map, hxj] at hv
    cases hv
    rcases hor with rfl | ⟨u, rfl, rfl⟩
    · exact hr.ev he
    · have := hr.ev he
      cases this with
      | imm hi =>
        cases hi with
        | val _ => exact .fr (.val _)) hcon
  unfold Oper.wp
  have : (execOp a.eval ⟨some d, .call ⟨.value (.func f), xs, ts⟩, ty, pos, after, guard⟩).run P w = .ok (.enter f (xs.toList.map a.eval).toArray) w := by
    have e : xs.map a.eval = (xs.toList.map a.eval).toArray := by rw [← Array.toList_map]
    simp [execOp, resolve, invoke, Deferred.ofValue, Act.eval, hc, e]
  rw [this]
  refine hcall.mono ?_
  rintro e w' (⟨v, r, st', μ', rfl, hq, hC, hrv⟩ | ⟨_, _, _, _, h, _⟩)
  · obtain ⟨s2, r', hb, hren, hsub⟩ := hres r st' hq
    obtain ⟨q1, q2, q3, _⟩ := back_rel hr hl (ndB_spec hnd) hC hb
    exact hK _ _ _ w' ((q1.put (hN d rfl) (q2 r r' v hrv hren)).sub hsub) rfl ((q3 W (allIn_spec hW)).sub hsub.2.1)
  · exact h.elim
end
end Go.AM
/-
 AM, part BJ: copy.
-/
namespace Go.AM
section
variable {P : Program} {N : Nat} {cx : Cx} {s : St}
variable {ty : TypeId} {pos : String} {after : Array Edge} {guard : Option (Nat × Bool)} {W : List Nat} {d : Nat}
theorem EF.copy {t t' e : TypeId} {x y : Operand} {h off n m : Nat} {k : Blk} {gy : G} {newsG : List G} {f : Bool} (hx : ev s x = some (.osl h 1 off n)) (hy : ev s y = some gy) (hk : sget s.st h = some k) (hp : k.pure = true)
    (hfit : off + n ≤ k.cells.length) (hsrc : gsrc s.st 1 gy = some (newsG, m, f)) (hlen : newsG.length = m * 1) (hone : ∀ g, g ∈ newsG → g.one = true)
    (ht : P.underlying t = some (.slice e)) (hi : (P.info? e).map (·.size) = some 1) (hW : W.contains h = true) (hlp : k.lp = none := by rfl) :
    Effect P W s ⟨some d, .call ⟨.builtin .copy, #[x, y], #[t, t']⟩, ty, pos, after, guard⟩
      (fun s' => s' = { fr := (d, .val (.int .i64 (Nat.min m n : Nat))) :: s.fr, st := sset s.st h { k with fresh := k.fresh && f, cells := k.cells.take off ++ newsG.take (Nat.min m n) ++ k.cells.drop (off + Nat.min m n) }, df := s.df } ∨
        (Nat.min m n = 0 ∧ s' = s.put d (.val (.int .i64 0)))) := by
  refine ⟨(fun _ h => by cases h), ?_⟩
  intro N cx μ a w hr hN K Q hK
  have hlen : newsG.length = m := by rw [hlen, Nat.mul_one]
  -- nothing goes over
  have idle : ∀ (o1 o2 : Option Addr) (c1 c2 : Nat), Nat.min m n = 0 → a.eval x = .slice o1 n c1 → a.eval y = .slice o2 m c2 → (Oper.wp P ⟨some d, .call ⟨.builtin .copy, #[x, y], #[t, t']⟩, ty, pos, after, guard⟩ a w K Q) := by
    intro o1 o2 c1 c2 h0 e1 e2
    have hrun := run_copy_none (P := P) w t t' ty e o1 o2 n c1 m c2 ht hi h0
    unfold Oper.wp
    have : (execOp a.eval ⟨some d, .call ⟨.builtin .copy, #[x, y], #[t, t']⟩, ty, pos, after, guard⟩).run P w = .ok (.value (goInt 0)) w := by
      simp only [execOp, resolve, invoke, builtin, Sem.run_bind, Sem.run_pure, Result.andThen_ok, List.map_toArray, List.map_cons, List.map_nil, e1, e2, hrun]
    rw [this]
    refine hK μ _ _ w (hr.put (d := d) (g := .val (.int .i64 0)) (hN d rfl) (.imm (.val _))) (.inr ⟨h0, rfl⟩) ⟨Nat.le_refl _, fun _ _ _ => rfl, fun x k1 b1 m1 hw h1 h2 => .inl ⟨x, k1, m1, hw, h1, h2⟩⟩
  have hv := hr.ev hx
  have hy1 : (∃ o2 c2, a.eval y = .slice o2 m c2 ∧ Nat.min m n = 0) ∨ ∃ (b off c : Nat) (news : List Value), a.eval y = .slice (some ⟨b, off, none⟩) m c ∧ news.length = m ∧ (∀ (j : Nat) (u : Value), news[j]? = some u → w.cell? ⟨b, off + j, none⟩ = some u) ∧ (∀ u ∈ news, u.oneCell' = true) ∧
      (∀ (j : Nat) (g : G), newsG[j]? = some g → ∃ u, news[j]? = some u ∧ RepI (bif f then Old (cx.O s.st μ) cx.base else cx.O s.st μ) w g u) := by
    rcases hr.src hy hsrc (by rw [hlen, Nat.mul_one]) hone with ⟨⟨o2, c2, h1⟩, h2⟩ | ⟨b2, off2, c2, news, e1, e2, e3, e4, e5, e6⟩
    · subst h2; exact .inl ⟨o2, c2, h1, Nat.zero_min _⟩
    · exact .inr ⟨b2, off2, c2, news, e1, by rw [e2, Nat.mul_one], e3, e4, e5⟩
  generalize hav : a.eval x = v at hv
  have small : n = 0 → (∃ o1 c1, v = .slice o1 0 c1) → (Oper.wp P ⟨some d, .call ⟨.builtin .copy, #[x, y], #[t, t']⟩, ty, pos, after, guard⟩ a w K Q) := by
    rintro h0 ⟨o1, c1, h1⟩
    subst h0
    rcases hy1 with ⟨o2, c2, h2, h3⟩ | ⟨b2, off2, c2, news, e1, e2, e3, e4, e5⟩
    · exact idle _ _ _ _ h3 (hav.trans h1) h2
    · exact idle _ _ _ _ (Nat.min_zero _) (hav.trans h1) e1
  cases hv with
  | imm h => cases h
  | onil _ _ hm => exact small rfl ⟨_, _, rfl⟩
  | ozero _ _ off0 b _ hm hpos => exact small rfl ⟨_, _, rfl⟩
  | osl _ _ _ _ b m0 cap hm hn hc =>
    rcases hy1 with ⟨o2, c2, h2, h3⟩ | ⟨b2, off2, c2, news, e1, e2, e3, e4, e5⟩
    · exact idle _ _ _ _ h3 hav h2
    obtain ⟨cs, h1, h2, h3, h4, h5, h6⟩ := hr.own hk hm hlp
    have hmn : Nat.min m n ≤ m := Nat.min_le_left _ _
    have hmn2 : Nat.min m n ≤ n := Nat.min_le_right _ _
    have hl : (news.take (Nat.min m n)).length = Nat.min m n := by rw [List.length_take, e2]; exact Nat.min_eq_left hmn
    have hrun := run_copy_row (P := P) w t t' ty e b off n cap ⟨b2, off2, none⟩ m c2 cs k.ety (news.take (Nat.min m n)) ht hi h1 hl
      (fun j u hu => by
        rw [Addr.add_off]
        rw [List.getElem?_take] at hu
        split at hu
        · exact e3 j u hu
        · cases hu) (by rw [hl]; omega) (fun u hu => e4 u (List.mem_of_mem_take hu))
    unfold Oper.wp
    have : (execOp a.eval ⟨some d, .call ⟨.builtin .copy, #[x, y], #[t, t']⟩, ty, pos, after, guard⟩).run P w = .ok (.value (goInt (Nat.min m n : Nat))) (w.setRow b (cs.toList.take off ++ news.take (Nat.min m n) ++ cs.toList.drop (off + Nat.min m n)).toArray) := by
      rw [hl] at hrun
      simp only [execOp, resolve, invoke, builtin, Sem.run_bind, Sem.run_pure, Result.andThen_ok, List.map_toArray, List.map_cons, List.map_nil, hav, e1, hrun]
    rw [this]
    have hwr := hr.write (k' := { k with fresh := k.fresh && f, cells := k.cells.take off ++ newsG.take (Nat.min m n) ++ k.cells.drop (off + Nat.min m n) }) (w' := w.setRow b (cs.toList.take off ++ news.take (Nat.min m n) ++ cs.toList.drop (off + Nat.min m n)).toArray) hk hm (setRow_heap_same h1) (by
        simp only [List.size_toArray, List.length_append, List.length_take, List.length_drop, Array.length_toList]; omega) (setRow_size _ _ _) (fun b' hb' => setRow_other w b b' _ hb') rfl rfl rfl id (by
        simp only [List.length_append, List.length_take, List.length_drop]; omega) h5 (by
        intro j g' hg'
        have hget : ∀ (j : Nat), (cs.toList.take off ++ news.take (Nat.min m n) ++ cs.toList.drop (off + Nat.min m n)).toArray[j]? = if j < off then cs[j]? else if j < off + Nat.min m n then news[j - off]? else cs[j]? := by
          intro j
          rw [List.getElem?_toArray, List.append_assoc, List.getElem?_append, List.length_take, Array.length_toList, Nat.min_eq_left (by omega : off ≤ cs.size)]
          split
          · rename_i hj; rw [List.getElem?_take, if_pos hj, Array.getElem?_toList]
          · rw [List.getElem?_append, hl]
            split
            · rename_i hj1 hj2; rw [if_pos (by omega), List.getElem?_take, if_pos hj2]
            · rename_i hj1 hj2; rw [if_neg (by omega), List.getElem?_drop, Array.getElem?_toList]; congr 1; omega
        have hlG : (newsG.take (Nat.min m n)).length = Nat.min m n := by rw [List.length_take, hlen]; exact Nat.min_eq_left hmn
        dsimp only at hg'
        rw [List.append_assoc, List.getElem?_append, List.length_take, Nat.min_eq_left (by omega : off ≤ k.cells.length)] at hg'
        rw [hget]
        have old : ∀ {j : Nat} {g' : G}, k.cells[j]? = some g' → ∃ v, cs[j]? = some v ∧ RepC (cx.O s.st μ) cx.base w μ { k with fresh := k.fresh && f, cells := k.cells.take off ++ newsG.take (Nat.min m n) ++ k.cells.drop (off + Nat.min m n) } g' v := by
          intro j g' hg'
          obtain ⟨v, hv, hrv⟩ := h6 j g' hg'
          refine ⟨v, hv, ?_⟩
          unfold RepC at hrv ⊢
          dsimp only at hrv ⊢
          rw [hp] at hrv ⊢
          exact hrv.flag (fun h => by simp at h; exact h.1)
        split at hg'
        · rename_i hj
          rw [if_pos hj]
          rw [List.getElem?_take, if_pos hj] at hg'
          exact old hg'
        · rename_i hj
          rw [if_neg hj]
          rw [List.getElem?_append, hlG] at hg'
          split at hg'
          · rename_i hj2
            rw [if_pos (by omega)]
            rw [List.getElem?_take, if_pos hj2] at hg'
            obtain ⟨u, hu, hru⟩ := e5 _ g' hg'
            refine ⟨u, hu, ?_⟩
            unfold RepC
            dsimp only
            rw [hp]
            exact hru.flag (fun h => by simp at h; exact h.2)
          · rename_i hj2
            rw [if_neg (by omega)]
            rw [List.getElem?_drop] at hg'
            have : off + Nat.min m n + (j - off - Nat.min m n) = j := by omega
            rw [this] at hg'
            exact old hg') W hW hlp
    exact hK μ _ _ _ (hwr.1.put (d := d) (g := .val (.int .i64 (Nat.min m n : Nat))) (hN d rfl) (.imm (.val _))) (.inl rfl) hwr.2
end
end Go.AM
