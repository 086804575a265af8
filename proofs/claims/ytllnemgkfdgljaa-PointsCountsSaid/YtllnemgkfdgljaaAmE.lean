/-
  AM, part E: operations that change the world: how they are said; regions that draw their order.
-/
import Derived.Test.YtllnemgkfdgljaaAmD
set_option linter.unusedSectionVars false
set_option linter.unusedSimpArgs false
set_option linter.unusedVariables false
namespace Go.AM

/-- What an operation did to memory. -/
structure Step (W : List Nat) (st : List (Nat × Blk)) (μ : Mu) (st' : List (Nat × Blk)) (μ' : Mu) (w w' : World) : Prop where
  size : w.heap.size ≤ w'.heap.size
  block : ∀ b, b < w.heap.size → (∀ h k m, h ∈ W → sget st h = some k → μ h ≠ some (b, m)) → w'.heap[b]? = w.heap[b]?
  hand : ∀ h k' b m', h ∈ W → sget st' h = some k' → μ' h = some (b, m') → (∃ h0 k m, h0 ∈ W ∧ sget st h0 = some k ∧ μ h0 = some (b, m)) ∨ w.heap.size ≤ b

def Effect (P : Program) (W : List Nat) (s : St) (o : Oper) (T : St → Prop) : Prop :=
  (∀ c, o.op ≠ .defer c) ∧ ∀ (N : Nat) (cx : Cx) (μ : Mu) (a : Act) (w : World), Rel N cx μ s a w → (∀ d, o.dst = some d → d < N) → ∀ (K : Act → World → Prop) (Q : Exit → Act → World → Prop),
    (∀ μ' s' a' w', Rel N cx μ' s' a' w' → T s' → Step W s.st μ s'.st μ' w w' → K a' w') → o.wp P a w K Q

section
variable {P : Program} {N : Nat} {cx : Cx} {Q : Exit → St → Prop} {s : St} {ops : Array Oper}

theorem GL.effect {rest : List Oper} {o : Oper} {W : List Nat} {T : St → Prop} (hw : wants ops s o.guard = some true) (hN : ∀ d, o.dst = some d → d < N) (he : Effect P W s o T)
    (h : ∀ s', T s' → GL P N cx ops Q rest s') : GL P N cx ops Q (o :: rest) s := by
  intro μ a w hr
  unfold wpListIn
  rw [if_pos (wants_spec hr hw)]
  exact operIn he.1 (he.2 N cx μ a w hr hN (wpListIn (FF cx.ro) 0 P ops (lift N cx Q) rest) (lift N cx Q) (fun μ' s' a' w' hr' ht _ => h s' ht μ' a' w' hr'))

/-! ### A region that draws its order -/

def WbOf (W : List Nat) (st : List (Nat × Blk)) (μ : Mu) (b : Nat) : Prop := ∃ h k m, h ∈ W ∧ sget st h = some k ∧ μ h = some (b, m)
structure Sw (ws : World) (Wb : Nat → Prop) (w : World) : Prop where
  size : ws.heap.size ≤ w.heap.size
  block : ∀ b, b < ws.heap.size → ¬ Wb b → w.heap[b]? = ws.heap[b]?

def GH1 (P : Program) (N : Nat) (cx : Cx) (ops : Array Oper) (Q : Exit → St → Prop) (W : List Nat) (fuel : Nat) (listed : Array Bool) (s : St) : Prop :=
  ∀ μ a w, Rel N cx μ s a w → wpAnyH P .any ops (lift N cx Q) (Sw w (WbOf W s.st μ)) fuel listed a w
def GH2 (P : Program) (N : Nat) (cx : Cx) (ops : Array Oper) (Q : Exit → St → Prop) (W : List Nat) (fuel : Nat) (listed : Array Bool) (s : St) : Prop :=
  ∀ ws Wb μ a w, Rel N cx μ s a w → Sw ws Wb w → (∀ h k b m, h ∈ W → sget s.st h = some k → μ h = some (b, m) → Wb b ∨ ws.heap.size ≤ b) →
    wpAnyH P .any ops (lift N cx Q) (Sw ws Wb) fuel listed a w

theorem RelSt.drew {μ : Mu} {st : List (Nat × Blk)} {w : World} (h : RelSt cx μ st w) : RelSt cx μ st w.drew :=
  { blk := fun x k hx => (h.blk x k hx).mono (fun _ _ _ => rfl) ⟨Nat.le_refl _, fun _ _ _ => rfl⟩ (fun _ _ h => h), inj := h.inj, out := h.out, pin := h.pin, xlt := h.xlt, hb := h.hb, os := h.os, tape := h.tape, output := h.output, keep := h.keep }
theorem Rel.drew {μ : Mu} {a : Act} {w : World} (h : Rel N cx μ s a w) : Rel N cx μ s a w.drew :=
  { st := h.st.drew, nd := h.nd.mono ⟨Nat.le_refl _, fun _ _ _ => rfl⟩ (fun _ _ h => h), sz := h.sz, fr := fun t g hg => let ⟨v, hv, hr⟩ := h.fr t g hg; ⟨v, hv, hr.mono ⟨Nat.le_refl _, fun _ _ _ => rfl⟩ (fun _ _ h => h) (Nat.le_refl _)⟩ }

theorem wpOp_in {ro : Option Nat} {n i : Nat} {K K' : Act → World → Prop} {a : Act} {w : World} (hd : noDefer ops.toList = true) (hK : ∀ a w, K a w → K' a w)
    (h : wpOp P ops (lift N cx Q) i K a w) : wpOpIn (FF ro) n P ops (lift N cx Q) i K' a w := by
  unfold wpOp at h
  unfold wpOpIn
  cases ho : ops[i]? with
  | none => rw [ho] at h; exact hK _ _ h
  | some o =>
    rw [ho] at h
    dsimp only at h ⊢
    split
    · rename_i hw
      rw [if_pos hw] at h
      rcases h with h | ⟨_, h⟩
      · exact operIn (fun c => noDefer_mem hd (by rw [Array.mem_toList_iff]; exact Array.mem_of_getElem? ho) c) (Oper.wp_mono hK h)
      · exact absurd h letsOut_lift
    · rename_i hw
      rw [if_neg hw] at h
      exact ⟨fun _ _ => trivial, hK _ _ h⟩

theorem wpAny_in {ro : Option Nat} {n : Nat} (hd : noDefer ops.toList = true) : ∀ (fuel : Nat) (listed : Array Bool) (a : Act) (w : World), wpAny P .any ops (lift N cx Q) fuel listed a w → wpAnyIn (FF ro) n P .any ops (lift N cx Q) fuel listed a w
  | 0, _, _, _, h => h
  | fuel + 1, _, _, _, h => ⟨h.1, fun i hi => wpOp_in hd (fun a w => wpAny_in hd fuel _ a w) (h.2 i hi)⟩

theorem GW.draws {id : Nat} (W : List Nat) (hm : P.follows .mixedOrders = true) (h : GH1 P N cx ops Q W ops.size (Array.replicate ops.size false) s) (hd : noDefer ops.toList = true := by rfl) : GW P N cx (.region id ops true) Q s := by
  intro μ a w hr
  exact wpIn_region_any hm (wpAny_in hd _ _ _ _ (wpAny_of_held _ _ _ _ (h μ a _ hr.drew)))

theorem lift_panic {c : List PanicEntry} {a : Act} {d : Option Tmp} {v : Value} {w : World} : lift N cx Q (.panic c) (a.put d v) w → lift N cx Q (.panic c) a w := by
  intro h
  cases d with
  | none => exact h
  | some d => exact h

theorem GH1.take {W : List Nat} {fuel : Nat} {listed : Array Bool} (i : Nat) {o : Oper} {d : Nat} {g : G} (hi : ops[i]? = some o) (hs : Region.noSelect ops = true) (hf : Region.free .any ops listed i = true)
    (hr : (Region.ready .any ops listed).contains i = true) (hw : wants ops s o.guard = some true) (hd : o.dst = some d) (hN : d < N) (hy : Yield P W s o g)
    (h : GH1 P N cx ops Q W fuel (listed.setIfInBounds i true) (s.put d g)) : GH1 P N cx ops Q W (fuel + 1) listed s := by
  intro μ a w hrel
  obtain ⟨v, hv, hrun⟩ := hy N cx μ a w hrel
  refine wpAnyH_take (v := v) hi hs hf hr (fun c a' w' h => lift_panic h) ?_ ⟨Nat.le_refl _, fun _ _ _ => rfl⟩ ?_
  · refine .inl ⟨wants_spec hrel hw, fun w' hS => ?_⟩
    exact hrun w' hS.size fun b hb hn => hS.block b hb fun ⟨h, k, m, h1, h2, h3⟩ => hn h k m h1 h2 h3
  · rw [hd]
    exact h μ _ w (hrel.put hN hv)

theorem GH1.pass {W : List Nat} {fuel : Nat} {listed : Array Bool} (i : Nat) {o : Oper} {d : Nat} (hi : ops[i]? = some o) (hs : Region.noSelect ops = true) (hf : Region.free .any ops listed i = true)
    (hr : (Region.ready .any ops listed).contains i = true) (hw : wants ops s o.guard = some false) (hd : o.dst = some d)
    (h : GH1 P N cx ops Q W fuel (listed.setIfInBounds i true) { s with fr := del s.fr d }) : GH1 P N cx ops Q W (fuel + 1) listed s := by
  intro μ a w hrel
  refine wpAnyH_take (v := undef) hi hs hf hr (fun c a' w' h => lift_panic h) (.inr ⟨wants_spec hrel hw, rfl⟩) ⟨Nat.le_refl _, fun _ _ _ => rfl⟩ ?_
  rw [hd]
  exact h μ _ w (hrel.put_undef d)

theorem GH1.done {W : List Nat} {fuel : Nat} {listed : Array Bool} (hr : Region.ready .any ops listed = []) (h : Q .normal s) : GH1 P N cx ops Q W fuel listed s :=
  fun μ _ _ hrel => wpAnyH_done hr ⟨μ, s, hrel, h⟩ fuel
theorem GH2.done {W : List Nat} {fuel : Nat} {listed : Array Bool} (hr : Region.ready .any ops listed = []) (h : Q .normal s) : GH2 P N cx ops Q W fuel listed s :=
  fun _ _ μ _ _ hrel _ _ => wpAnyH_done hr ⟨μ, s, hrel, h⟩ fuel

theorem GH1.later {W : List Nat} {fuel : Nat} {listed : Array Bool} (h : GH2 P N cx ops Q W fuel listed s) : GH1 P N cx ops Q W fuel listed s := fun μ a w hrel =>
  h w _ μ a w hrel ⟨Nat.le_refl _, fun _ _ _ => rfl⟩ (fun h k _ m h1 h2 h3 => .inl ⟨h, k, m, h1, h2, h3⟩)

theorem GH2.take {W : List Nat} {fuel : Nat} {listed : Array Bool} (i : Nat) {o : Oper} {d : Nat} {g : G} (hi : ops[i]? = some o) (hs : Region.noSelect ops = true) (hf : Region.free .any ops listed i = true)
    (hr : (Region.ready .any ops listed).contains i = true) (hw : wants ops s o.guard = some true) (hd : o.dst = some d) (hN : d < N) (hy : PY P s o g)
    (h : GH2 P N cx ops Q W fuel (listed.setIfInBounds i true) (s.put d g)) : GH2 P N cx ops Q W (fuel + 1) listed s := by
  intro ws Wb μ a w hrel hS hW
  obtain ⟨v, hv, hrun⟩ := hy N cx μ a w hrel
  refine wpAnyH_take (v := v) hi hs hf hr (fun c a' w' h => lift_panic h) (.inl ⟨wants_spec hrel hw, fun w' _ => hrun w'⟩) hS ?_
  rw [hd]
  exact h ws Wb μ _ w (hrel.put hN hv) hS hW

theorem GH2.pass {W : List Nat} {fuel : Nat} {listed : Array Bool} (i : Nat) {o : Oper} {d : Nat} (hi : ops[i]? = some o) (hs : Region.noSelect ops = true) (hf : Region.free .any ops listed i = true)
    (hr : (Region.ready .any ops listed).contains i = true) (hw : wants ops s o.guard = some false) (hd : o.dst = some d)
    (h : GH2 P N cx ops Q W fuel (listed.setIfInBounds i true) { s with fr := del s.fr d }) : GH2 P N cx ops Q W (fuel + 1) listed s := by
  intro ws Wb μ a w hrel hS hW
  refine wpAnyH_take (v := undef) hi hs hf hr (fun c a' w' h => lift_panic h) (.inr ⟨wants_spec hrel hw, rfl⟩) hS ?_
  rw [hd]
  exact h ws Wb μ _ w (hrel.put_undef d) hS hW

/-- The one operation that may come up: a load. -/
theorem GH2.oneY {W : List Nat} {fuel : Nat} {listed : Array Bool} (i : Nat) {o : Oper} {d : Nat} {g : G} (hr : Region.ready .any ops listed = [i]) (hi : ops[i]? = some o)
    (hw : wants ops s o.guard = some true) (hd : o.dst = some d) (hN : d < N) (hy : Yield P [] s o g)
    (h : GH2 P N cx ops Q W fuel (listed.setIfInBounds i true) (s.put d g)) : GH2 P N cx ops Q W (fuel + 1) listed s := by
  intro ws Wb μ a w hrel hS hW
  obtain ⟨v, hv, hrun⟩ := hy N cx μ a w hrel
  have hrun := hrun w (Nat.le_refl _) (fun _ _ _ => rfl)
  refine wpAnyH_all hr (by simp) fun j hj => ?_
  obtain rfl : j = i := by simpa using hj
  unfold wpOp
  simp only [hi]
  rw [if_pos (wants_spec hrel hw)]
  refine .inl ?_
  unfold Oper.wp
  rw [hrun]
  show Sw ws Wb w ∧ _
  refine ⟨hS, ?_⟩
  rw [hd]
  exact h ws Wb μ _ w (hrel.put hN hv) hS hW

/-- The one operation that may come up: it changes the world. -/
theorem GH2.one {W : List Nat} {fuel : Nat} {listed : Array Bool} (i : Nat) {o : Oper} {T : St → Prop} (hr : Region.ready .any ops listed = [i]) (hi : ops[i]? = some o)
    (hw : wants ops s o.guard = some true) (hN : ∀ d, o.dst = some d → d < N) (he : Effect P W s o T)
    (h : ∀ s', T s' → GH2 P N cx ops Q W fuel (listed.setIfInBounds i true) s') : GH2 P N cx ops Q W (fuel + 1) listed s := by
  intro ws Wb μ a w hrel hS hW
  refine wpAnyH_all hr (by simp) fun j hj => ?_
  obtain rfl : j = i := by simpa using hj
  unfold wpOp
  simp only [hi]
  rw [if_pos (wants_spec hrel hw)]
  have := he.2 N cx μ a w hrel hN (fun a' w' => Sw ws Wb w' ∧ wpAnyH P .any ops (lift N cx Q) (Sw ws Wb) fuel (listed.setIfInBounds j true) a' w') (lift N cx Q) ?_
  · exact .inl this
  · intro μ' s' a' w' hrel' ht hst
    have hS' : Sw ws Wb w' := by
      refine ⟨Nat.le_trans hS.size hst.size, fun b hb hn => ?_⟩
      rw [hst.block b (Nat.lt_of_lt_of_le hb hS.size) ?_]
      · exact hS.block b hb hn
      · intro h k m h1 h2 h3
        rcases hW h k b m h1 h2 h3 with h4 | h4
        · exact hn h4
        · omega
    refine ⟨hS', h s' ht ws Wb μ' a' w' hrel' hS' ?_⟩
    intro h k' b m h1 h2 h3
    rcases hst.hand h k' b m h1 h2 h3 with ⟨h0, k, m0, hw0, h4, h5⟩ | h4
    · exact hW h0 k b m0 hw0 h4 h5
    · exact .inr (Nat.le_trans hS.size h4)

/-- One of two that may come up, each of which changes the world. -/
theorem GH2.two {W : List Nat} {fuel : Nat} {listed : Array Bool} (i i' : Nat) {o o' : Oper} {T T' : St → Prop} (hr : Region.ready .any ops listed = [i, i']) (hi : ops[i]? = some o) (hi' : ops[i']? = some o')
    (hw : wants ops s o.guard = some true) (hw' : wants ops s o'.guard = some true) (hN : ∀ d, o.dst = some d → d < N) (hN' : ∀ d, o'.dst = some d → d < N) (he : Effect P W s o T) (he' : Effect P W s o' T')
    (h : ∀ s', T s' → GH2 P N cx ops Q W fuel (listed.setIfInBounds i true) s') (h' : ∀ s', T' s' → GH2 P N cx ops Q W fuel (listed.setIfInBounds i' true) s') : GH2 P N cx ops Q W (fuel + 1) listed s := by
  intro ws Wb μ a w hrel hS hW
  have key : ∀ (j : Nat) (o : Oper) (T : St → Prop), ops[j]? = some o → wants ops s o.guard = some true → (∀ d, o.dst = some d → d < N) → Effect P W s o T →
      (∀ s', T s' → GH2 P N cx ops Q W fuel (listed.setIfInBounds j true) s') →
      wpOp P ops (lift N cx Q) j (fun a' w' => Sw ws Wb w' ∧ wpAnyH P .any ops (lift N cx Q) (Sw ws Wb) fuel (listed.setIfInBounds j true) a' w') a w := by
    intro j o T hi hw hN he h
    unfold wpOp
    simp only [hi]
    rw [if_pos (wants_spec hrel hw)]
    have := he.2 N cx μ a w hrel hN (fun a' w' => Sw ws Wb w' ∧ wpAnyH P .any ops (lift N cx Q) (Sw ws Wb) fuel (listed.setIfInBounds j true) a' w') (lift N cx Q) ?_
    · exact .inl this
    · intro μ' s' a' w' hrel' ht hst
      have hS' : Sw ws Wb w' := by
        refine ⟨Nat.le_trans hS.size hst.size, fun b hb hn => ?_⟩
        rw [hst.block b (Nat.lt_of_lt_of_le hb hS.size) ?_]
        · exact hS.block b hb hn
        · intro h k m h1 h2 h3
          rcases hW h k b m h1 h2 h3 with h4 | h4
          · exact hn h4
          · omega
      refine ⟨hS', h s' ht ws Wb μ' a' w' hrel' hS' ?_⟩
      intro h k' b m h1 h2 h3
      rcases hst.hand h k' b m h1 h2 h3 with ⟨h0, k, m0, hw0, h4, h5⟩ | h4
      · exact hW h0 k b m0 hw0 h4 h5
      · exact .inr (Nat.le_trans hS.size h4)
  refine wpAnyH_all hr (by simp) fun j hj => ?_
  have hj' : j = i ∨ j = i' := by simpa using hj
  rcases hj' with rfl | rfl
  · exact key j o T hi hw hN he h
  · exact key j o' T' hi' hw' hN' he' h'

end
end Go.AM
