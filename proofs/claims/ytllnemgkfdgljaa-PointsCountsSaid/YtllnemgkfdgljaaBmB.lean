/-
  AM, part BB: the steps: calls to which blocks are lent; handles under other numbers.
-/
import Derived.Test.YtllnemgkfdgljaaBmA
set_option linter.unusedSectionVars false
set_option linter.unusedSimpArgs false
set_option linter.unusedVariables false
namespace Go.AM

def ndB : List Nat → Bool
  | [] => true
  | h :: r => !(r.contains h) && ndB r
theorem ndB_spec : ∀ {H : List Nat}, ndB H = true → H.Nodup
  | [], _ => List.nodup_nil
  | h :: r, e => by
    simp only [ndB, Bool.and_eq_true, Bool.not_eq_true'] at e
    refine List.nodup_cons.2 ⟨fun hm => ?_, ndB_spec e.2⟩
    have := e.1
    simp at this
    exact this hm

section
variable {P : Program} {N : Nat} {cx : Cx} {s : St}
variable {ty : TypeId} {pos : String} {after : Array Edge} {guard : Option (Nat × Bool)} {W : List Nat} {d : Nat}

theorem Step.sub {st st' st2 : List (Nat × Blk)} {μ μ' : Mu} {w w' : World} (h : Step W st μ st' μ' w w') (hs : SubSt st' st2) : Step W st μ st2 μ' w w' :=
  ⟨h.size, h.block, fun x k b m h1 h2 h3 => h.hand x k b m h1 (hs.get h2) h3⟩

/-- The heart: a call with these values, to which the blocks of 'H' are lent. -/
theorem lend_core {f : FuncId} {vs : List Value} {gs gs' : List G} {stC : List (Nat × Blk)} {Q : G → List (Nat × Blk) → Prop} {Qp : List PanicEntry → List (Nat × Blk) → Prop} {H : List Nat} {vw : Bool} {μ : Mu} {a : Act} {w : World} (hr : Rel N cx μ s a w)
    (hv : lendG.go H (lendV s.st H vw) gs = some gs') (hl : lendSt H (lendV s.st H vw) s.st H 0 = some stC) (hnd : ndB H = true) (hvs : vs.length = gs.length)
    (hrep : ∀ (j : Nat) (g : G) (v : Value), gs[j]? = some g → vs[j]? = some v → RepV (cx.O s.st μ) cx.base w μ g v) (hcon : GP P f gs' stC Q Qp) :
    Calls P f vs.toArray w (Came (lendX cx s.st μ H vw) stC (muC H μ) w Q Qp) := by
  obtain ⟨h1, h2⟩ := lendG_go hv
  have hrel := lend_rel hr.st hl (ndB_spec hnd)
  refine hcon (lendX cx s.st μ H vw) (muC H μ) w vs hrel.xlt hrel (by omega) fun j g v hg hv => ?_
  obtain ⟨g0, h3, h4⟩ := h2 j g hg
  exact lendG_spec hr.st hl (hrep j g0 v h3 hv) h4

def allIn (H W : List Nat) : Bool := H.all W.contains
theorem allIn_spec {H W : List Nat} (h : allIn H W = true) : ∀ x ∈ H, x ∈ W := fun x hx => by
  have := List.all_eq_true.1 h x hx
  simpa using this

theorem EF.lend {f : FuncId} {xs : Array Operand} {ts : Array TypeId} {gs gs' : List G} {stC : List (Nat × Blk)} {Q : G → List (Nat × Blk) → Prop} {s1 : St} (H : List Nat) (vw : Bool) (bk : List Nat) (hc : ∀ args w, (callFunc f args).run P w = .ok (.enter f args) w)
    (hx : evA s xs.toList = some gs) (hv : lendG.go H (lendV s.st H vw) gs = some gs') (hl : lendSt H (lendV s.st H vw) s.st H 0 = some stC) (hnd : ndB H = true) (hcon : GM P f gs' stC Q)
    (hres : ∀ r st', Q r st' → ∃ s2 r', backS vw s H st' bk = some s2 ∧ renG vw (bkH st' bk) r = some r' ∧ Sub (s2.put d r') s1) (hW : allIn H W = true) :
    Effect P W s ⟨some d, .call ⟨.value (.func f), xs, ts⟩, ty, pos, after, guard⟩ (· = s1) := by
  refine ⟨(fun _ h => by cases h), ?_⟩
  intro N cx μ a w hr hN K Q' hK
  obtain ⟨h1, h2⟩ := evA_get hx
  have hcall := lend_core (vs := xs.toList.map a.eval) hr hv hl hnd (by simp [h1]) (fun j g v hg hv => by
    obtain ⟨x, hxj, he⟩ := h2 j g hg
    rw [List.getElem?_map, hxj] at hv
    cases hv
    exact hr.ev he) hcon
  unfold Oper.wp
  have : (execOp a.eval ⟨some d, .call ⟨.value (.func f), xs, ts⟩, ty, pos, after, guard⟩).run P w = .ok (.enter f (xs.toList.map a.eval).toArray) w := by
    have e : xs.map a.eval = (xs.toList.map a.eval).toArray := by rw [← Array.toList_map]
    simp [execOp, resolve, invoke, Deferred.ofValue, Act.eval, hc, e]
  rw [this]
  refine hcall.mono ?_
  rintro e w' (⟨v, r, st', μ', rfl, hq, hC, hrv⟩ | ⟨_, _, _, _, h, _⟩)
  · obtain ⟨s2, r', hb, hren, hsub⟩ := hres r st' hq
    obtain ⟨q1, q2, q3, _⟩ := back_rel hr hl (ndB_spec hnd) hC hb
    exact hK _ _ _ w' ((q1.put (hN d rfl) (q2 r r' v hrv hren)).sub hsub) rfl ((q3 W (allIn_spec hW)).sub hsub.2.1)
  · exact h.elim

/-- A call of a function value. -/
theorem EF.lendV {f : FuncId} {x : Operand} {xs : Array Operand} {ts : Array TypeId} {gs caps gs' : List G} {stC : List (Nat × Blk)} {Q : G → List (Nat × Blk) → Prop} {s1 : St} (H : List Nat) (vw : Bool) (bk : List Nat) (hc : ∀ args w, (callFunc f args).run P w = .ok (.enter f args) w)
    (hf : ev s x = some (.clo f caps)) (hx : evA s xs.toList = some gs) (hv : lendG.go H (lendV s.st H vw) (gs ++ caps) = some gs') (hl : lendSt H (lendV s.st H vw) s.st H 0 = some stC) (hnd : ndB H = true) (hcon : GM P f gs' stC Q)
    (hres : ∀ r st', Q r st' → ∃ s2 r', backS vw s H st' bk = some s2 ∧ renG vw (bkH st' bk) r = some r' ∧ Sub (s2.put d r') s1) (hW : allIn H W = true) :
    Effect P W s ⟨some d, .call ⟨.value x, xs, ts⟩, ty, pos, after, guard⟩ (· = s1) := by
  refine ⟨(fun _ h => by cases h), ?_⟩
  intro N cx μ a w hr hN K Q' hK
  obtain ⟨h1, h2⟩ := evA_get hx
  have hcl := hr.ev hf
  generalize hav : a.eval x = vf at hcl
  cases hcl with
  | imm h => cases h
  | clo _ _ us hlu hrc =>
    have hcall := lend_core (vs := xs.toList.map a.eval ++ us) hr hv hl hnd (by simp [h1, hlu]) (fun j g v hg hv => by
      rw [List.getElem?_append] at hg hv
      rw [List.length_map, ← h1] at hv
      split at hg
      · rename_i hj
        rw [if_pos hj] at hv
        obtain ⟨x, hxj, he⟩ := h2 j g hg
        rw [List.getElem?_map, hxj] at hv
        cases hv
        exact hr.ev he
      · rename_i hj
        rw [if_neg hj] at hv
        exact hrc _ g v hg hv) hcon
    unfold Oper.wp
    have : (execOp a.eval ⟨some d, .call ⟨.value x, xs, ts⟩, ty, pos, after, guard⟩).run P w = .ok (.enter f (xs.toList.map a.eval ++ us).toArray) w := by
      have e : xs.map a.eval ++ us.toArray = (xs.toList.map a.eval ++ us).toArray := by rw [← List.append_toArray, ← Array.toList_map]
      simp [execOp, resolve, invoke, Deferred.ofValue, hav, hc, e]
    rw [this]
    refine hcall.mono ?_
    rintro e w' (⟨v, r, st', μ', rfl, hq, hC, hrv⟩ | ⟨_, _, _, _, h, _⟩)
    · obtain ⟨s2, r', hb, hren, hsub⟩ := hres r st' hq
      obtain ⟨q1, q2, q3, _⟩ := back_rel hr hl (ndB_spec hnd) hC hb
      exact hK _ _ _ w' ((q1.put (hN d rfl) (q2 r r' v hrv hren)).sub hsub) rfl ((q3 W (allIn_spec hW)).sub hsub.2.1)
    · exact h.elim
end
end Go.AM
