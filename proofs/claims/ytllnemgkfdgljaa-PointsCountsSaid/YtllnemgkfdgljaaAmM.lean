/-
  AM, part M: calls of functions by their contracts.
-/
import Derived.Test.YtllnemgkfdgljaaAmL
set_option linter.unusedSectionVars false
set_option linter.unusedSimpArgs false
set_option linter.unusedVariables false
namespace Go.AM

def viewA (n : Nat) (st : List (Nat × Blk)) : G → Option G
  | .clo f caps => match mapO (view n st) caps with
    | some c => some (.clo f c)
    | none => none
  | g => view n st g

def evA (s : St) : List Operand → Option (List G)
  | [] => some []
  | x :: r => match ev s x, evA s r with
    | some g, some gs => some (g :: gs)
    | _, _ => none

section
variable {P : Program} {N : Nat} {cx : Cx} {s : St}

theorem evA_get : ∀ {xs : List Operand} {gs : List G}, evA s xs = some gs → gs.length = xs.length ∧ ∀ (j : Nat) (g : G), gs[j]? = some g → ∃ x, xs[j]? = some x ∧ ev s x = some g
  | [], _, h => by cases h; exact ⟨rfl, fun j g h => by simp at h⟩
  | x :: r, gs, h => by
    simp only [evA] at h
    cases h1 : ev s x with
    | none => rw [h1] at h; cases h
    | some g1 =>
      rw [h1] at h
      cases h2 : evA s r with
      | none => rw [h2] at h; cases h
      | some r1 =>
        rw [h2] at h
        cases h
        obtain ⟨h3, h4⟩ := evA_get h2
        refine ⟨by simp [h3], fun j g' hg' => ?_⟩
        cases j with
        | zero => cases hg'; exact ⟨x, rfl, h1⟩
        | succ j => exact h4 j g' hg'

theorem viewA_spec {O : Nat → Prop} {base : Nat} {st : List (Nat × Blk)} {μ μ' : Mu} {w : World} (hst : RelSt cx μ st w) (n : Nat) {g g' : G} {v : Value} (hv : RepV (cx.O st μ) cx.base w μ g v) (h : viewA n st g = some g')
    (hO : ∀ b, b < w.heap.size → ¬ cx.X b → ¬ O b) : RepV O base w μ' g' v := by
  have up : ∀ {g v}, RepI cx.X w g v → RepV O base w μ' g v := fun h => .imm (h.mono (Kept.refl _ _) hO)
  cases g with
  | clo f caps =>
    simp only [viewA] at h
    cases hq : mapO (view n st) caps with
    | none => rw [hq] at h; cases h
    | some c =>
      rw [hq] at h
      cases h
      obtain ⟨h1, h2⟩ := mapO_get hq
      cases hv with
      | imm hv => cases hv
      | clo _ _ us hl hr =>
        refine .clo f c us (by omega) fun j g v hg hv => ?_
        obtain ⟨g0, h3, h4⟩ := h2 j g hg
        exact up (view_spec hst n (hr j g0 v h3 hv) h4)
  | _ => exact up (view_spec hst n hv h)

theorem RelSt.kept {μ : Mu} {st : List (Nat × Blk)} {w w' : World} (h : RelSt cx μ st w) (hsz : w.heap.size ≤ w'.heap.size) (hb : ∀ b, b < w.heap.size → w'.heap[b]? = w.heap[b]?) (hos : w'.os = w.os) (htape : w'.tape = w.tape) (hout : w'.output = w.output) : RelSt cx μ st w' := by
  have hk : ∀ O, Kept O w w' := fun O => ⟨hsz, fun b h _ => hb b h⟩
  refine { blk := ?_, inj := h.inj, out := h.out, pin := h.pin, xlt := h.xlt, hb := Nat.le_trans h.hb hsz, os := hos.trans h.os, tape := htape.trans h.tape, output := hout.trans h.output, keep := fun b h1 h2 => ?_ }
  · intro x k hx
    refine (h.blk x k hx).mono (fun b m hm => hb b ?_) (hk _) (fun _ _ h => h)
    have := h.blk x k hx
    rw [hm] at this
    obtain ⟨⟨o, h1⟩, _⟩ := this.heap
    exact lt_of_heap h1
  · rw [hb b (by have := h.hb; omega)]; exact h.keep b h1 h2
theorem Rel.kept {μ : Mu} {a : Act} {w w' : World} (h : Rel N cx μ s a w) (hsz : w.heap.size ≤ w'.heap.size) (hb : ∀ b, b < w.heap.size → w'.heap[b]? = w.heap[b]?) (hos : w'.os = w.os) (htape : w'.tape = w.tape) (hout : w'.output = w.output) : Rel N cx μ s a w' :=
  { st := h.st.kept hsz hb hos htape hout, nd := h.nd.mono ⟨hsz, fun b h _ => hb b h⟩ (fun _ _ h => h), sz := h.sz, fr := fun t g hg => let ⟨v, hv, hr⟩ := h.fr t g hg; ⟨v, hv, hr.mono ⟨hsz, fun b h _ => hb b h⟩ (fun _ _ h => h) (Nat.le_refl _)⟩ }

theorem own_lt {μ : Mu} {st : List (Nat × Blk)} {w : World} (h : RelSt cx μ st w) {b : Nat} (ho : Own st μ b) : b < w.heap.size := by
  obtain ⟨x, k, m, h1, h2⟩ := ho
  have := h.blk x k h1
  rw [h2] at this
  obtain ⟨⟨o, h3⟩, _⟩ := this.heap
  exact lt_of_heap h3

theorem relSt_nil {X : Nat → Prop} {μ : Mu} {w : World} (hX : ∀ b, X b → b < w.heap.size) : RelSt (cx0 X [] μ w) μ [] w :=
  { blk := fun _ _ h => (by cases h), inj := fun _ _ _ _ _ _ _ h => (by cases h), out := fun _ _ _ _ h => (by cases h), pin := fun _ _ h => (by cases h), xlt := hX, hb := Nat.le_refl _, os := rfl, tape := rfl, output := rfl, keep := fun _ _ _ => rfl }

theorem own_nil {μ : Mu} {b : Nat} : ¬ Own [] μ b := fun ⟨_, _, _, h, _⟩ => by cases h

variable {ty : TypeId} {pos : String} {after : Array Edge} {guard : Option (Nat × Bool)} {W : List Nat} {d : Nat}

/-- The heart: a call with these values, by a contract that writes nothing and whose result is fresh. -/
theorem call_core {f : FuncId} {vs : List Value} {gs gs' : List G} {Q : G → List (Nat × Blk) → Prop} (n : Nat) {μ : Mu} {a : Act} {w : World} (hr : Rel N cx μ s a w) (hv : mapO (viewA n s.st) gs = some gs')
    (hvs : vs.length = gs.length) (hrep : ∀ (j : Nat) (g : G) (v : Value), gs[j]? = some g → vs[j]? = some v → RepV (cx.O s.st μ) cx.base w μ g v)
    (hcon : GM P f gs' [] Q) (hres : ∀ r st', Q r st' → freshG r = true) :
    Calls P f vs.toArray w fun e w' => ∃ v r st', e = .returned v ∧ Q r st' ∧ Rel N cx μ s a w' ∧ RepV (cx.O s.st μ) cx.base w' μ r v ∧ Step W s.st μ s.st μ w w' := by
  obtain ⟨h1, h2⟩ := mapO_get hv
  have hX : ∀ b, cx.X b → b < w.heap.size := fun b hb => by have := hr.st.xlt b hb; have := hr.st.hb; omega
  refine (hcon.returned cx.X (fun _ => none) w vs hX (relSt_nil hX) (by omega) fun j g v hg hv => ?_).mono ?_
  · obtain ⟨g0, h3, h4⟩ := h2 j g hg
    exact viewA_spec hr.st n (hrep j g0 v h3 hv) h4 fun b _ hn ho => ho.elim hn own_nil
  · rintro e w' ⟨v, r, st', μ', rfl, hq, hst, hrv⟩
    have hkeep : ∀ b, b < w.heap.size → w'.heap[b]? = w.heap[b]? := fun b hb => hst.keep b hb own_nil
    refine ⟨v, r, st', rfl, hq, hr.kept hst.hb hkeep hst.os hst.tape hst.output, ?_, ⟨hst.hb, fun b hb _ => hkeep b hb, fun h k b m hw h1 h2 => .inl ⟨h, k, m, hw, h1, h2⟩⟩⟩
    have hf := hres r st' hq
    have hb := hr.st.hb
    have hxl := hr.st.xlt
    have hol : ∀ b, Own s.st μ b → b < w.heap.size := fun b ho => own_lt hr.st ho
    -- as 'freshG_spec'
    generalize hO : (cx0 cx.X [] (fun _ => none) w).O st' μ' = O at hrv
    have imm : ∀ {g : G} {v : Value}, RepI O w' g v → freshG g = true → RepV (cx.O s.st μ) cx.base w' μ g v := by
      intro g v h
      induction h with
      | any v => intro hf; cases hf
      | val v => intro _; exact .imm (.val v)
      | nil => intro hf; cases hf
      | emp _ _ => intro hf; cases hf
      | sl _ _ _ _ _ _ _ _ _ _ _ => intro hf; cases hf
      | ptr _ _ _ _ _ _ _ _ => intro hf; cases hf
      | agg cells us hl hr ih => intro hf; exact .agg cells us hl fun j g v hg hv => ih j g v hg hv (freshG_go hf j g hg)
    clear hq
    induction hrv with
    | imm h => exact imm h hf
    | fr h =>
      refine .fr (h.mono (Kept.refl _ _) ?_)
      rintro b hb1 hn (ho | ho | ho)
      · exact hn (.inl (by show b < w.heap.size; omega))
      · exact hn (.inl (by have := hxl b ho; show b < w.heap.size; omega))
      · exact hn (.inl (hol b ho))
    | agg cells us hl hr ih => exact .agg cells us hl fun j g v hg hv => ih j g v hg hv (freshG_go hf j g hg)
    | tup cells us hl hr ih => exact .tup cells us hl fun j g v hg hv => ih j g v hg hv (freshG_go hf j g hg)
    | _ => cases hf

theorem EF.call {f : FuncId} {xs : Array Operand} {ts : Array TypeId} {gs gs' : List G} {Q : G → List (Nat × Blk) → Prop} (n : Nat) (hc : ∀ args w, (callFunc f args).run P w = .ok (.enter f args) w)
    (hx : evA s xs.toList = some gs) (hv : mapO (viewA n s.st) gs = some gs') (hcon : GM P f gs' [] Q) (hres : ∀ r st', Q r st' → freshG r = true) :
    Effect P W s ⟨some d, .call ⟨.value (.func f), xs, ts⟩, ty, pos, after, guard⟩ (fun s' => ∃ r st', Q r st' ∧ s' = s.put d r) := by
  refine ⟨(fun _ h => by cases h), ?_⟩
  intro N cx μ a w hr hN K Q' hK
  obtain ⟨h1, h2⟩ := evA_get hx
  have hcall := call_core (vs := xs.toList.map a.eval) (W := W) n hr hv (by simp [h1]) (fun j g v hg hv => by
    obtain ⟨x, hxj, he⟩ := h2 j g hg
    rw [List.getElem?_map, hxj] at hv
    cases hv
    exact hr.ev he) hcon hres
  unfold Oper.wp
  have : (execOp a.eval ⟨some d, .call ⟨.value (.func f), xs, ts⟩, ty, pos, after, guard⟩).run P w = .ok (.enter f (xs.toList.map a.eval).toArray) w := by
    have e : xs.map a.eval = (xs.toList.map a.eval).toArray := by rw [← Array.toList_map]
    simp [execOp, resolve, invoke, Deferred.ofValue, Act.eval, hc, e]
  rw [this]
  refine hcall.mono ?_
  rintro e w' ⟨v, r, st', rfl, hq, hr', hrv, hst⟩
  exact hK μ _ _ w' (hr'.put (hN d rfl) hrv) ⟨r, st', hq, rfl⟩ hst

/-- A call of a function value. -/
theorem EF.callV {f : FuncId} {x : Operand} {xs : Array Operand} {ts : Array TypeId} {gs caps gs' : List G} {Q : G → List (Nat × Blk) → Prop} (n : Nat) (hc : ∀ args w, (callFunc f args).run P w = .ok (.enter f args) w)
    (hf : ev s x = some (.clo f caps)) (hx : evA s xs.toList = some gs) (hv : mapO (viewA n s.st) (gs ++ caps) = some gs') (hcon : GM P f gs' [] Q) (hres : ∀ r st', Q r st' → freshG r = true) :
    Effect P W s ⟨some d, .call ⟨.value x, xs, ts⟩, ty, pos, after, guard⟩ (fun s' => ∃ r st', Q r st' ∧ s' = s.put d r) := by
  refine ⟨(fun _ h => by cases h), ?_⟩
  intro N cx μ a w hr hN K Q' hK
  obtain ⟨h1, h2⟩ := evA_get hx
  have hcl := hr.ev hf
  generalize hav : a.eval x = vf at hcl
  cases hcl with
  | imm h => cases h
  | clo _ _ us hl hrc =>
    have hcall := call_core (vs := xs.toList.map a.eval ++ us) (W := W) n hr hv (by simp [h1, hl]) (fun j g v hg hv => by
      rw [List.getElem?_append] at hg hv
      rw [List.length_map, ← h1] at hv
      split at hg
      · rename_i hj
        rw [if_pos hj] at hv
        obtain ⟨x, hxj, he⟩ := h2 j g hg
        rw [List.getElem?_map, hxj] at hv
        cases hv
        exact hr.ev he
      · rename_i hj
        rw [if_neg hj] at hv
        exact hrc _ g v hg hv) hcon hres
    unfold Oper.wp
    have : (execOp a.eval ⟨some d, .call ⟨.value x, xs, ts⟩, ty, pos, after, guard⟩).run P w = .ok (.enter f (xs.toList.map a.eval ++ us).toArray) w := by
      have e : xs.map a.eval ++ us.toArray = (xs.toList.map a.eval ++ us).toArray := by rw [← List.append_toArray, ← Array.toList_map]
      simp [execOp, resolve, invoke, Deferred.ofValue, hav, hc, e]
    rw [this]
    refine hcall.mono ?_
    rintro e w' ⟨v, r, st', rfl, hq, hr', hrv, hst⟩
    exact hK μ _ _ w' (hr'.put (hN d rfl) hrv) ⟨r, st', hq, rfl⟩ hst

end
end Go.AM
