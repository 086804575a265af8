/-
  AM, part L: a contract from a walk; calls by contract.
-/
import Derived.Test.YtcbaolgciiieeaaAmK
namespace Go.AM

def notMine : List (Nat × Blk) → Bool
  | [] => true
  | (_, k) :: r => !k.mine && notMine r

/-- At a function's end. -/
def RetQ (P : Program) (fn : Func) (Q : G → List (Nat × Blk) → Prop) : Exit → St → Prop := fun e s =>
  (e = .ret ∨ e = .normal) ∧ ∃ gs r st', Ress P s fn.results.toList gs ∧ SubSt s.st st' ∧ fzG s.st st' (pack gs) = some r ∧ Q r st'

section
variable {P : Program} {N : Nat} {cx : Cx} {s : St}

theorem pack_rep {O : Nat → Prop} {base : Nat} {w : World} {μ : Mu} {gs : List G} {vs : List Value} (hl : vs.length = gs.length) (hr : ∀ (j : Nat) (g : G) (v : Value), gs[j]? = some g → vs[j]? = some v → RepV O base w μ g v) :
    RepV O base w μ (pack gs) (if h : vs.toArray.size = 1 then vs.toArray[0] else .tuple vs.toArray) := by
  match gs, vs, hl, hr with
  | [], [], _, hr => exact .tup [] [] rfl hr
  | [g], [v], _, hr => exact hr 0 g v rfl rfl
  | g :: g' :: gs, v :: v' :: vs, hl, hr =>
    rw [dif_neg (by simp)]
    exact .tup _ _ hl hr

theorem results_eq (fn : Func) (a : Act) : results fn a.tmps = (do let vs ← fn.results.mapM (resSem a); pure (if h : vs.size = 1 then vs[0] else .tuple vs)) := rfl

theorem run_mapM_array {α : Type} (f : α → Sem Value) (xs : Array α) (w w' : World) (vs : List Value) (h : (xs.toList.mapM f).run P w = .ok vs w') : (xs.mapM f).run P w = .ok vs.toArray w' := by
  rw [Array.mapM_eq_mapM_toList]
  simp [Sem.run_map, h]

theorem GM.of {f : FuncId} {fn : Func} {c : Code} {args : List G} {st : List (Nat × Blk)} {Q : G → List (Nat × Blk) → Prop} (hf : P.funcs[f]? = some fn) (hb : fn.body = some c) (hN : fn.ntmps = N) (hle : Nat.ble args.length N = true)
    (h : ∀ cx, GW P N cx c (RetQ P fn Q) { fr := frameOf args 0, st := st }) : GM P f args st Q := by
  intro X μ w vs hX hst hl ha
  refine calls_of_wp hf hb ?_
  have hle := Nat.le_of_ble_eq_true hle
  have hrel : Rel N (cx0 X st μ w) μ { fr := frameOf args 0, st := st } { tmps := vs.toArray ++ Array.replicate (fn.ntmps - vs.toArray.size) undef, defers := [] } w := by
    refine { st := hst, nd := rfl, sz := by simp; omega, fr := fun t g hg => ?_ }
    obtain ⟨_, h2⟩ := get_frameOf hg
    simp only [Nat.sub_zero] at h2
    have ht : t < vs.length := by have := (List.getElem?_eq_some_iff.1 h2).1; omega
    refine ⟨vs[t], ?_, ha t g vs[t] h2 (List.getElem?_eq_getElem ht)⟩
    rw [Array.getElem?_append_left (by simpa using ht)]
    simp [ht]
  refine wp_mono (h (cx0 X st μ w) μ _ w hrel) fun e a' w' hl => ?_
  have fin : ∀ (μ' : Mu) (s' : St), Rel N (cx0 X st μ w) μ' s' a' w' → RetQ P fn Q e s' → a'.defers = [] ∧ ∃ v, (results fn a'.tmps).run P w' = .ok v w' ∧
      ∃ v1 r st' μ'', Ending.returned v = .returned v1 ∧ Q r st' ∧ RelSt (cx0 X st μ w) μ'' st' w' ∧ RepV ((cx0 X st μ w).O st' μ'') w.heap.size w' μ'' r v1 := by
    rintro μ' s' hr' ⟨_, gs, r, st', h1, h2, h3, h4⟩
    obtain ⟨vs', hl', hvs, hrun⟩ := h1.run hr'
    have hp := pack_rep hl' hvs
    refine ⟨hr'.nd, _, ?_, _, r, st', μ', rfl, h4, hr'.st.sub h2, fzG_spec hr'.st h2 hp h3⟩
    rw [results_eq]
    simp only [Sem.run_bind, run_mapM_array _ _ _ _ _ hrun, Result.andThen_ok, Sem.run_pure]
  cases e with
  | normal => obtain ⟨μ', s', hr', hq⟩ := hl; exact fin μ' s' hr' hq
  | ret => obtain ⟨μ', s', hr', hq⟩ := hl; exact fin μ' s' hr' hq
  | panic c => exact hl.elim
  | outgrown => exact hl.elim
  | exit id => obtain ⟨μ', s', hr', hq, _⟩ := hl; rcases hq with hq | hq <;> cases hq
  | goto l => obtain ⟨μ', s', hr', hq, _⟩ := hl; rcases hq with hq | hq <;> cases hq

/-! ### How a caller's values read to a callee that writes nothing -/

def mapO (f : G → Option G) : List G → Option (List G)
  | [] => some []
  | g :: r => match f g, mapO f r with
    | some g', some r' => some (g' :: r')
    | _, _ => none

theorem mapO_get {f : G → Option G} : ∀ {gs gs' : List G}, mapO f gs = some gs' → gs'.length = gs.length ∧ ∀ (j : Nat) (g' : G), gs'[j]? = some g' → ∃ g, gs[j]? = some g ∧ f g = some g'
  | [], _, h => by cases h; exact ⟨rfl, fun j g h => by simp at h⟩
  | g :: r, gs', h => by
    simp only [mapO] at h
    cases h1 : f g with
    | none => rw [h1] at h; cases h
    | some g1 =>
      rw [h1] at h
      cases h2 : mapO f r with
      | none => rw [h2] at h; cases h
      | some r1 =>
        rw [h2] at h
        cases h
        obtain ⟨h3, h4⟩ := mapO_get h2
        refine ⟨by simp [h3], fun j g' hg' => ?_⟩
        cases j with
        | zero => cases hg'; exact ⟨g, rfl, h1⟩
        | succ j => exact h4 j g' hg'

/-- The nil slice as an empty one. -/
def viewV : Value → G
  | .slice none 0 0 => .sl 0 []
  | v => .val v
theorem viewV_rep {O : Nat → Prop} {w : World} (v : Value) : RepI O w (viewV v) v := by
  unfold viewV
  split
  · exact .nil
  · exact .val _

def view : Nat → List (Nat × Blk) → G → Option G
  | 0, _, _ => none
  | n + 1, st, g => match g with
    | .val v => some (viewV v)
    | .sl n cs => some (.sl n cs)
    | .ptr cs => some (.ptr cs)
    | .fr g => some g
    | .osl h sz off m => match sget st h with
      | some k => match k.pure with
        | true => some (.sl m ((k.cells.drop off).take (m * sz)))
        | false => match mapO (view n st) ((k.cells.drop off).take (m * sz)) with
          | some cs => some (.sl m cs)
          | none => none
      | none => none
    | .loc h off => match sget st h with
      | some k => match k.pure with
        | true => some (.ptr (k.cells.drop off))
        | false => match mapO (view n st) (k.cells.drop off) with
          | some cs => some (.ptr cs)
          | none => none
      | none => none
    | .agg gs => match mapO (view n st) gs with
      | some gs' => some (.agg gs')
      | none => none
    | _ => none

/-- What is seen is a reading that leans on nothing but what the caller may lean on, its own blocks among it. -/
theorem view_spec {st : List (Nat × Blk)} {μ : Mu} {w : World} (hst : RelSt cx μ st w) : ∀ (n : Nat) {g g' : G} {v : Value}, RepV (cx.O st μ) cx.base w μ g v → view n st g = some g' → RepI cx.X w g' v
  | 0, _, _, _, _, h => by cases h
  | n + 1, g, g', v, hv, h => by
    have hX : ∀ {g v}, RepI (cx.O st μ) w g v → RepI cx.X w g v := fun h => h.mono (Kept.refl _ _) fun b _ hn hx => hn (.inl hx)
    have cells : ∀ (hh off cnt : Nat) (k : Blk) (b m : Nat) (cs : List G), sget st hh = some k → μ hh = some (b, m) → (match k.pure with | true => some ((k.cells.drop off).take cnt) | false => mapO (view n st) ((k.cells.drop off).take cnt)) = some cs →
        ∃ us : Nat → Value, ¬ cx.X b ∧ b < w.heap.size ∧ (∀ j, j < cs.length → w.cell? ⟨b, off + j, none⟩ = some (us j)) ∧ (∀ (j : Nat) (g : G), cs[j]? = some g → RepI cx.X w g (us j)) ∧ cs.length ≤ m - off := by
      intro hh off cnt k b m cs hk hm hcs
      have hb := hst.blk hh k hk
      rw [hm] at hb
      obtain ⟨vs, h1, h2, h3, h4, h5, h6⟩ := hb
      have rd : cs.length ≤ m - off ∧ ∀ (j : Nat) (g : G), cs[j]? = some g → ∃ v, vs[off + j]? = some v ∧ RepI cx.X w g v := by
        cases hp : k.pure with
        | true =>
          rw [hp] at hcs
          cases hcs
          refine ⟨by rw [List.length_take, List.length_drop]; omega, fun j g hg => ?_⟩
          rw [List.getElem?_take] at hg
          split at hg
          · rw [List.getElem?_drop] at hg
            obtain ⟨v, hv, hrv⟩ := h6 _ g hg
            refine ⟨v, hv, ?_⟩
            unfold RepC at hrv
            rw [hp] at hrv
            exact hX (hrv.flag (f' := false) (fun h => by cases h))
          · cases hg
        | false =>
          rw [hp] at hcs
          obtain ⟨h7, h8⟩ := mapO_get hcs
          refine ⟨by rw [h7, List.length_take, List.length_drop]; omega, fun j g hg => ?_⟩
          obtain ⟨g0, h9, h10⟩ := h8 j g hg
          rw [List.getElem?_take] at h9
          split at h9
          · rw [List.getElem?_drop] at h9
            obtain ⟨v, hv, hrv⟩ := h6 _ g0 h9
            refine ⟨v, hv, ?_⟩
            unfold RepC at hrv
            rw [hp] at hrv
            exact view_spec hst n hrv h10
          · cases h9
      refine ⟨fun j => vs.getD (off + j) undef, (hst.out hh k b m hk hm).1, lt_of_heap h1, fun j hj => ?_, fun j g hg => ?_, rd.1⟩
      · obtain ⟨v, hv, _⟩ := rd.2 j _ (List.getElem?_eq_getElem hj)
        rw [cell_of h1, hv]
        simp [hv]
      · obtain ⟨v, hv, hrv⟩ := rd.2 j g hg
        simpa [hv] using hrv
    cases g with
    | val u => cases h; cases hv with | imm hv => cases hv; exact viewV_rep _
    | sl m cs => cases h; cases hv with | imm hv => exact hX hv
    | ptr cs => cases h; cases hv with | imm hv => exact hX hv
    | fr g => cases h; cases hv with
      | imm hv => cases hv
      | fr hv => exact hX hv.old
    | osl hh sz off m =>
      simp only [view] at h
      cases hk : sget st hh with
      | none => rw [hk] at h; cases h
      | some k =>
        rw [hk] at h
        dsimp only at h
        have key : ∃ cs, g' = .sl m cs ∧ (match k.pure with | true => some ((k.cells.drop off).take (m * sz)) | false => mapO (view n st) ((k.cells.drop off).take (m * sz))) = some cs := by
          cases hp : k.pure with
          | true => rw [hp] at h; cases h; exact ⟨_, rfl, rfl⟩
          | false =>
            rw [hp] at h
            dsimp only at h ⊢
            cases hq : mapO (view n st) ((k.cells.drop off).take (m * sz)) with
            | none => rw [hq] at h; cases h
            | some cs => rw [hq] at h; cases h; exact ⟨_, rfl, rfl⟩
        obtain ⟨cs, rfl, hcs⟩ := key
        have len0 : ∀ {cs}, m * sz = 0 → (match k.pure with | true => some ((k.cells.drop off).take (m * sz)) | false => mapO (view n st) ((k.cells.drop off).take (m * sz))) = some cs → cs = [] := by
          intro cs h0 h
          rw [h0, List.take_zero] at h
          cases hp : k.pure with
          | true => rw [hp] at h; cases h; rfl
          | false => rw [hp] at h; cases h; rfl
        cases hv with
        | imm hv => cases hv
        | onil _ _ hm =>
          rw [len0 (Nat.zero_mul _) hcs]
          exact .nil
        | osl _ _ _ _ b m0 cap hm hn hc =>
          obtain ⟨us, h1, h2, h3, h4, _⟩ := cells hh off (m * sz) k b m0 cs hk hm hcs
          exact .sl m cs b off cap us hn h1 h2 h3 h4
        | ozero _ _ off0 b _ hm hpos =>
          rw [len0 (Nat.zero_mul _) hcs]
          obtain ⟨us, h1, h2, _⟩ := cells hh off (0 * sz) k b off cs hk hm hcs
          exact .sl 0 [] b off0 0 us (Nat.le_refl _) h1 h2 (fun j hj => by simp at hj) (fun j g hg => by simp at hg)
    | loc hh off =>
      simp only [view] at h
      cases hk : sget st hh with
      | none => rw [hk] at h; cases h
      | some k =>
        rw [hk] at h
        dsimp only at h
        have tk : (k.cells.drop off).take (k.cells.length) = k.cells.drop off := List.take_of_length_le (by rw [List.length_drop]; omega)
        have key : ∃ cs, g' = .ptr cs ∧ (match k.pure with | true => some ((k.cells.drop off).take k.cells.length) | false => mapO (view n st) ((k.cells.drop off).take k.cells.length)) = some cs := by
          rw [tk]
          cases hp : k.pure with
          | true => rw [hp] at h; cases h; exact ⟨_, rfl, rfl⟩
          | false =>
            rw [hp] at h
            dsimp only at h ⊢
            cases hq : mapO (view n st) (k.cells.drop off) with
            | none => rw [hq] at h; cases h
            | some cs => rw [hq] at h; cases h; exact ⟨_, rfl, rfl⟩
        obtain ⟨cs, rfl, hcs⟩ := key
        cases hv with
        | imm hv => cases hv
        | loc _ _ b m0 hm =>
          obtain ⟨us, h1, h2, h3, h4, _⟩ := cells hh off _ k b m0 cs hk hm hcs
          exact .ptr cs b off us h1 h2 h3 h4
    | agg gs =>
      simp only [view] at h
      cases hq : mapO (view n st) gs with
      | none => rw [hq] at h; cases h
      | some gs' =>
        rw [hq] at h
        cases h
        obtain ⟨h1, h2⟩ := mapO_get hq
        have key : ∃ us : List Value, v = .agg us.toArray ∧ us.length = gs.length ∧ ∀ (j : Nat) (g : G) (v : Value), gs[j]? = some g → us[j]? = some v → RepV (cx.O st μ) cx.base w μ g v := by
          cases hv with
          | imm hv => cases hv with
            | agg _ us hl hr => exact ⟨us, rfl, hl, fun j g v h1 h2 => .imm (hr j g v h1 h2)⟩
          | agg _ us hl hr => exact ⟨us, rfl, hl, hr⟩
        obtain ⟨us, rfl, hl, hr⟩ := key
        refine .agg gs' us (by omega) fun j g v hg hv => ?_
        obtain ⟨g0, h3, h4⟩ := h2 j g hg
        exact view_spec hst n (hr j g0 v h3 hv) h4
    | _ => cases h

/-- Fresh through and through, or no reference at all. -/
def freshG : G → Bool
  | .val _ => true
  | .fr _ => true
  | .agg gs => go gs
  | .tup gs => go gs
  | _ => false
where go : List G → Bool
  | [] => true
  | g :: r => freshG g && go r

theorem freshG_go {gs : List G} (h : freshG.go gs = true) : ∀ (j : Nat) (g : G), gs[j]? = some g → freshG g = true := by
  induction gs with
  | nil => intro j g hg; simp at hg
  | cons x r ih =>
    simp only [freshG.go, Bool.and_eq_true] at h
    intro j g hg
    cases j with
    | zero => cases hg; exact h.1
    | succ j => exact ih h.2 j g hg

/-- What a callee hands back, if it is fresh, reads so to the caller. -/
theorem freshG_spec {X : Nat → Prop} {st' : List (Nat × Blk)} {μ' μ : Mu} {st : List (Nat × Blk)} {w w' : World} {g : G} {v : Value} (hb : cx.base ≤ w.heap.size) (hX : ∀ b, cx.X b → b < cx.base) (hown : ∀ b, Own st μ b → b < w.heap.size)
    (hv : RepV ((cx0 X st' μ' w).O st' μ') w.heap.size w' μ' g v) (hf : freshG g = true) : RepV (cx.O st μ) cx.base w' μ g v := by
  generalize hO : (cx0 X st' μ' w).O st' μ' = O at hv
  have imm : ∀ {g : G} {v : Value}, RepI O w' g v → freshG g = true → RepV (cx.O st μ) cx.base w' μ g v := by
    intro g v h
    induction h with
    | any v => intro hf; cases hf
    | val v => intro _; exact .imm (.val v)
    | nil => intro hf; cases hf
    | emp _ _ => intro hf; cases hf
    | sl _ _ _ _ _ _ _ _ _ _ _ => intro hf; cases hf
    | ptr _ _ _ _ _ _ _ _ => intro hf; cases hf
    | agg cells us hl hr ih => intro hf; exact .agg cells us hl fun j g v hg hv => ih j g v hg hv (freshG_go hf j g hg)
  induction hv with
  | imm h => exact imm h hf
  | fr h =>
    refine .fr (h.mono (Kept.refl _ _) ?_)
    rintro b hb1 hn (ho | ho | ho)
    · exact hn (.inl (by omega))
    · exact hn (.inl (by have := hX b ho; omega))
    · exact hn (.inl (hown b ho))
  | agg cells us hl hr ih => exact .agg cells us hl fun j g v hg hv => ih j g v hg hv (freshG_go hf j g hg)
  | tup cells us hl hr ih => exact .tup cells us hl fun j g v hg hv => ih j g v hg hv (freshG_go hf j g hg)
  | _ => cases hf

end
end Go.AM
