/-
  AM, part V: results that lean on what was handed in; calls that hand in nothing of the call's own.
-/
import Derived.Test.YtllnemgkfdgljaaAmU
set_option linter.unusedSectionVars false
set_option linter.unusedSimpArgs false
set_option linter.unusedVariables false
namespace Go.AM

/-! ### A result, whether fresh or not -/
def stripG : G → G
  | .fr g => g
  | .agg gs => .agg (go gs)
  | .tup gs => .tup (go gs)
  | .clo f gs => .clo f (go gs)
  | g => g
where go : List G → List G
  | [] => []
  | g :: r => stripG g :: go r

theorem stripG_go {gs : List G} : (stripG.go gs).length = gs.length ∧ ∀ (j : Nat) (g' : G), (stripG.go gs)[j]? = some g' → ∃ g, gs[j]? = some g ∧ g' = stripG g := by
  induction gs with
  | nil => exact ⟨rfl, fun j g h => by simp [stripG.go] at h⟩
  | cons x r ih =>
    refine ⟨by simp [stripG.go, ih.1], fun j g' h => ?_⟩
    simp only [stripG.go] at h
    cases j with
    | zero => cases h; exact ⟨x, rfl, rfl⟩
    | succ j => exact ih.2 j g' h

theorem RepI.strip {O : Nat → Prop} {base : Nat} {w : World} {μ : Mu} {g : G} {v : Value} (h : RepI O w g v) : RepV O base w μ (stripG g) v := by
  induction h with
  | any v => exact .imm (.any v)
  | val v => exact .imm (.val v)
  | nil => exact .imm .nil
  | emp a c => exact .imm (.emp a c)
  | sl n cells b off cap us h1 h2 h3 h4 h5 ih => exact .imm (.sl n cells b off cap us h1 h2 h3 h4 h5)
  | ptr cells b off us h1 h2 h3 h4 ih => exact .imm (.ptr cells b off us h1 h2 h3 h4)
  | agg cells us hl hr ih =>
    refine .agg _ us (by rw [stripG_go.1]; exact hl) fun j g v hg hv => ?_
    obtain ⟨g0, h1, rfl⟩ := stripG_go.2 j g hg
    exact ih j g0 v h1 hv
theorem RepV.strip {O : Nat → Prop} {base : Nat} {w : World} {μ : Mu} {g : G} {v : Value} (h : RepV O base w μ g v) : RepV O base w μ (stripG g) v := by
  induction h with
  | imm h => exact h.strip
  | fr h => exact .imm h.old
  | loc h off b m hm => exact .loc h off b m hm
  | onil h sz hm => exact .onil h sz hm
  | osl h sz off n b m cap hm hn hc => exact .osl h sz off n b m cap hm hn hc
  | ozero h sz off0 b m hm hp => exact .ozero h sz off0 b m hm hp
  | agg cells us hl hr ih =>
    refine .agg _ us (by rw [stripG_go.1]; exact hl) fun j g v hg hv => ?_
    obtain ⟨g0, h1, rfl⟩ := stripG_go.2 j g hg
    exact ih j g0 v h1 hv
  | tup cells us hl hr ih =>
    refine .tup _ us (by rw [stripG_go.1]; exact hl) fun j g v hg hv => ?_
    obtain ⟨g0, h1, rfl⟩ := stripG_go.2 j g hg
    exact ih j g0 v h1 hv
  | clo f caps us hl hr ih =>
    refine .clo f _ us (by rw [stripG_go.1]; exact hl) fun j g v hg hv => ?_
    obtain ⟨g0, h1, rfl⟩ := stripG_go.2 j g hg
    exact ih j g0 v h1 hv
  | yld h b m hm => exact .yld h b m hm

theorem GM.strip {P : Program} {f : FuncId} {args : List G} {st : List (Nat × Blk)} {R : G} {T : List (Nat × Blk) → Prop} (h : GM P f args st (fun g st' => stripG g = R ∧ T st')) : GM P f args st (fun g st' => g = R ∧ T st') := by
  intro X μ w vs h1 h2 h3 h4
  refine (h.returned X μ w vs h1 h2 h3 h4).mono fun e w' ⟨v, r, st', μ', e1, ⟨e2, e3⟩, h5, h6⟩ => ?_
  exact .inl ⟨v, stripG r, st', μ', e1, ⟨e2, e3⟩, h5, h6.strip⟩

/-! ### Arguments of which nothing is the caller's own -/
def viewI : G → Option G
  | .val v => some (viewV v)
  | .sl n cs => some (.sl n cs)
  | .ptr cs => some (.ptr cs)
  | .fr g => some g
  | .agg gs => (go gs).map .agg
  | .clo f caps => (go caps).map (.clo f)
  | _ => none
where go : List G → Option (List G)
  | [] => some []
  | g :: r => match viewI g, go r with
    | some g', some r' => some (g' :: r')
    | _, _ => none

theorem viewI_go : ∀ {gs gs' : List G}, viewI.go gs = some gs' → gs'.length = gs.length ∧ ∀ (j : Nat) (g' : G), gs'[j]? = some g' → ∃ g, gs[j]? = some g ∧ viewI g = some g'
  | [], _, h => by cases h; exact ⟨rfl, fun j g h => by simp at h⟩
  | g :: r, gs', h => by
    simp only [viewI.go] at h
    cases h1 : viewI g with
    | none => rw [h1] at h; cases h
    | some g1 =>
      rw [h1] at h
      cases h2 : viewI.go r with
      | none => rw [h2] at h; cases h
      | some r1 =>
        rw [h2] at h
        cases h
        obtain ⟨h3, h4⟩ := viewI_go h2
        refine ⟨by simp [h3], fun j g' hg' => ?_⟩
        cases j with
        | zero => cases hg'; exact ⟨g, rfl, h1⟩
        | succ j => exact h4 j g' hg'

theorem viewI_imm {O : Nat → Prop} {base : Nat} {μ : Mu} {w : World} {g g' : G} {v : Value} (h : RepI O w g v) (hf : viewI g = some g') : RepV O base w μ g' v := by
  induction h generalizing g' with
  | any v => cases hf
  | val v =>
    cases hf
    unfold viewV
    split
    · exact .imm .nil
    · exact .imm (.val _)
  | nil => cases hf; exact .imm .nil
  | emp a c => cases hf; exact .imm (.emp a c)
  | sl n cells b off cap us h1 h2 h3 h4 h5 ih => cases hf; exact .imm (.sl n cells b off cap us h1 h2 h3 h4 h5)
  | ptr cells b off us h1 h2 h3 h4 ih => cases hf; exact .imm (.ptr cells b off us h1 h2 h3 h4)
  | agg cells us hl hr ih =>
    simp only [viewI, Option.map_eq_some_iff] at hf
    obtain ⟨gs', h1, rfl⟩ := hf
    obtain ⟨h2, h3⟩ := viewI_go h1
    refine .agg gs' us (by omega) fun j g v hg hv => ?_
    obtain ⟨g0, h4, h5⟩ := h3 j g hg
    exact ih j g0 v h4 hv h5
theorem viewI_spec {O : Nat → Prop} {base base' : Nat} {μ μ' : Mu} {w : World} {g g' : G} {v : Value} (h : RepV O base w μ g v) (hf : viewI g = some g') : RepV O base' w μ' g' v := by
  induction h generalizing g' with
  | imm h => exact viewI_imm h hf
  | fr h => cases hf; exact .imm h.old
  | agg cells us hl hr ih =>
    simp only [viewI, Option.map_eq_some_iff] at hf
    obtain ⟨gs', h1, rfl⟩ := hf
    obtain ⟨h2, h3⟩ := viewI_go h1
    refine .agg gs' us (by omega) fun j g v hg hv => ?_
    obtain ⟨g0, h4, h5⟩ := h3 j g hg
    exact ih j g0 v h4 hv h5
  | clo f caps us hl hr ih =>
    simp only [viewI, Option.map_eq_some_iff] at hf
    obtain ⟨gs', h1, rfl⟩ := hf
    obtain ⟨h2, h3⟩ := viewI_go h1
    refine .clo f gs' us (by omega) fun j g v hg hv => ?_
    obtain ⟨g0, h4, h5⟩ := h3 j g hg
    exact ih j g0 v h4 hv h5
  | _ => cases hf

/-- No block of the callee's own. -/
def impG : G → Bool
  | .val _ => true
  | .sl _ _ => true
  | .ptr _ => true
  | .fr _ => true
  | .agg gs => go gs
  | .tup gs => go gs
  | .clo _ gs => go gs
  | _ => false
where go : List G → Bool
  | [] => true
  | g :: r => impG g && go r
theorem impG_go {gs : List G} (h : impG.go gs = true) : ∀ (j : Nat) (g : G), gs[j]? = some g → impG g = true := by
  induction gs with
  | nil => intro j g hg; simp at hg
  | cons x r ih =>
    simp only [impG.go, Bool.and_eq_true] at h
    intro j g hg
    cases j with
    | zero => cases hg; exact h.1
    | succ j => exact ih h.2 j g hg

theorem impG_spec {O O' : Nat → Prop} {base base' : Nat} {μ μ' : Mu} {w : World} {g : G} {v : Value} (h : RepV O base w μ g v) (hi : impG g = true) (hO : ∀ b, O' b → O b) (hb : ∀ b, b < base' → b < base) : RepV O' base' w μ' g v := by
  induction h with
  | imm h => exact .imm (h.mono (Kept.refl _ _) fun b _ hn ho => hn (hO b ho))
  | fr h =>
    refine .fr (h.mono (Kept.refl _ _) ?_)
    rintro b _ hn (ho | ho)
    · exact hn (.inl (hb b ho))
    · exact hn (.inr (hO b ho))
  | agg cells us hl hr ih => exact .agg cells us hl fun j g v hg hv => ih j g v hg hv (impG_go hi j g hg)
  | tup cells us hl hr ih => exact .tup cells us hl fun j g v hg hv => ih j g v hg hv (impG_go hi j g hg)
  | clo f cells us hl hr ih => exact .clo f cells us hl fun j g v hg hv => ih j g v hg hv (impG_go hi j g hg)
  | _ => cases hi

section
variable {P : Program} {N : Nat} {cx : Cx} {s : St}
variable {ty : TypeId} {pos : String} {after : Array Edge} {guard : Option (Nat × Bool)} {W : List Nat} {d : Nat}

theorem call_coreA {f : FuncId} {vs : List Value} {gs gs' : List G} {Q : G → List (Nat × Blk) → Prop} {μ : Mu} {a : Act} {w : World} (hr : Rel N cx μ s a w) (hv : mapO viewI gs = some gs')
    (hvs : vs.length = gs.length) (hrep : ∀ (j : Nat) (g : G) (v : Value), gs[j]? = some g → vs[j]? = some v → RepV (cx.O s.st μ) cx.base w μ g v)
    (hcon : GM P f gs' [] Q) (hres : ∀ r st', Q r st' → impG r = true ∧ st' = []) :
    Calls P f vs.toArray w fun e w' => ∃ v r st', e = .returned v ∧ Q r st' ∧ Rel N cx μ s a w' ∧ RepV (cx.O s.st μ) cx.base w' μ r v ∧ Step W s.st μ s.st μ w w' := by
  obtain ⟨h1, h2⟩ := mapO_get hv
  have hX : ∀ b, cx.O s.st μ b → b < w.heap.size := fun b hb => by
    rcases hb with hb | hb
    · have := hr.st.xlt b hb; have := hr.st.hb; omega
    · exact own_lt hr.st hb
  refine (hcon.returned (cx.O s.st μ) (fun _ => none) w vs hX (relSt_nil hX) (by omega) fun j g v hg hv => ?_).mono ?_
  · obtain ⟨g0, h3, h4⟩ := h2 j g hg
    have := viewI_spec (base' := w.heap.size) (μ' := fun _ => none) (hrep j g0 v h3 hv) h4
    exact this.mono (Kept.refl _ _) (fun b _ hn ho => ho.elim hn own_nil) (Nat.le_refl _)
  · rintro e w' ⟨v, r, st', μ', rfl, hq, hst, hrv⟩
    have hkeep : ∀ b, b < w.heap.size → w'.heap[b]? = w.heap[b]? := fun b hb => hst.keep b hb own_nil
    obtain ⟨hf, hs⟩ := hres r st' hq
    subst hs
    refine ⟨v, r, [], rfl, hq, hr.kept hst.hb hkeep hst.os hst.tape hst.output, ?_, ⟨hst.hb, fun b hb _ => hkeep b hb, fun h k b m hw h1 h2 => .inl ⟨h, k, m, hw, h1, h2⟩⟩⟩
    exact impG_spec hrv hf (fun b hb => .inl hb) (fun b hb => Nat.lt_of_lt_of_le hb hr.st.hb)

theorem EF.callA {f : FuncId} {xs : Array Operand} {ts : Array TypeId} {gs gs' : List G} {Q : G → List (Nat × Blk) → Prop} (hc : ∀ args w, (callFunc f args).run P w = .ok (.enter f args) w)
    (hx : evA s xs.toList = some gs) (hv : mapO viewI gs = some gs') (hcon : GM P f gs' [] Q) (hres : ∀ r st', Q r st' → impG r = true ∧ st' = []) :
    Effect P W s ⟨some d, .call ⟨.value (.func f), xs, ts⟩, ty, pos, after, guard⟩ (fun s' => ∃ r st', Q r st' ∧ s' = s.put d r) := by
  refine ⟨(fun _ h => by cases h), ?_⟩
  intro N cx μ a w hr hN K Q' hK
  obtain ⟨h1, h2⟩ := evA_get hx
  have hcall := call_coreA (vs := xs.toList.map a.eval) (W := W) hr hv (by simp [h1]) (fun j g v hg hv => by
    obtain ⟨x, hxj, he⟩ := h2 j g hg
    rw [List.getElem?_map, hxj] at hv
    cases hv
    exact hr.ev he) hcon hres
  unfold Oper.wp
  have : (execOp a.eval ⟨some d, .call ⟨.value (.func f), xs, ts⟩, ty, pos, after, guard⟩).run P w = .ok (.enter f (xs.toList.map a.eval).toArray) w := by
    have e : xs.map a.eval = (xs.toList.map a.eval).toArray := by rw [← Array.toList_map]
    simp [execOp, resolve, invoke, Deferred.ofValue, Act.eval, hc, e]
  rw [this]
  refine hcall.mono ?_
  rintro e w' ⟨v, r, st', rfl, hq, hr', hrv, hst⟩
  exact hK μ _ _ w' (hr'.put (hN d rfl) hrv) ⟨r, st', hq, rfl⟩ hst
end
end Go.AM
