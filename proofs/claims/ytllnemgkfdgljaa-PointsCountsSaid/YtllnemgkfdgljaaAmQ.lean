/-
  AM, part Q: a slot whose value is known; two loads of which either may come up first.
-/
import Derived.Test.YtllnemgkfdgljaaAmP
set_option linter.unusedSectionVars false
set_option linter.unusedSimpArgs false
set_option linter.unusedVariables false
namespace Go.AM

section
variable {P : Program} {N : Nat} {cx : Cx} {Q : Exit → St → Prop} {s : St} {ops : Array Oper} {rest : List Oper}

theorem Rel.dup {μ : Mu} {a : Act} {w : World} {t : Nat} {g : G} (hr : Rel N cx μ s a w) (hg : get s.fr t = some g) : Rel N cx μ { fr := (t, g) :: s.fr, st := s.st, df := s.df } a w :=
  { st := hr.st, nd := hr.nd, sz := hr.sz, fr := fun t' g' h => by
      simp only [get] at h
      cases e : t.beq t' with
      | true =>
        rw [e, cond_true] at h
        cases h
        have e := Nat.eq_of_beq_eq_true e
        subst e
        exact hr.fr _ _ hg
      | false =>
        rw [e, cond_false] at h
        exact hr.fr _ _ h }

/-- The length of a slot's slice in other words. -/
theorem Rel.resl {μ : Mu} {a : Act} {w : World} {t h sz off n m : Nat} (hr : Rel N cx μ s a w) (hg : get s.fr t = some (.osl h sz off n)) (hn : n = m) : Rel N cx μ { fr := (t, .osl h sz off m) :: s.fr, st := s.st, df := s.df } a w := by
  subst hn; exact hr.dup hg
theorem GL.resl (t : Nat) {h sz off n m : Nat} (hg : get s.fr t = some (.osl h sz off n)) (hn : n = m) (k : GL P N cx ops Q rest { fr := (t, .osl h sz off m) :: s.fr, st := s.st, df := s.df }) : GL P N cx ops Q rest s := fun μ a w hr => k μ a w (hr.resl hg hn)
theorem GH2.resl {W : List Nat} {fuel : Nat} {listed : Array Bool} (t : Nat) {h sz off n m : Nat} (hg : get s.fr t = some (.osl h sz off n)) (hn : n = m) (k : GH2 P N cx ops Q W fuel listed { fr := (t, .osl h sz off m) :: s.fr, st := s.st, df := s.df }) : GH2 P N cx ops Q W fuel listed s :=
  fun ws Wb μ a w hr => k ws Wb μ a w (hr.resl hg hn)

theorem GL.lit (t : Nat) {b v : Bool} (hg : get s.fr t = some (.val (.bool b))) (hb : b = v) (h : GL P N cx ops Q rest { fr := (t, .val (.bool v)) :: s.fr, st := s.st, df := s.df }) : GL P N cx ops Q rest s := fun μ a w hr => by
  subst hb
  exact h μ a w (hr.dup hg)
theorem GW.lit {c : Code} (t : Nat) {b v : Bool} (hg : get s.fr t = some (.val (.bool b))) (hb : b = v) (h : GW P N cx c Q { fr := (t, .val (.bool v)) :: s.fr, st := s.st, df := s.df }) : GW P N cx c Q s := fun μ a w hr => by
  subst hb
  exact h μ a w (hr.dup hg)
theorem GH1.lit {W : List Nat} {fuel : Nat} {listed : Array Bool} (t : Nat) {b v : Bool} (hg : get s.fr t = some (.val (.bool b))) (hb : b = v) (h : GH1 P N cx ops Q W fuel listed { fr := (t, .val (.bool v)) :: s.fr, st := s.st, df := s.df }) : GH1 P N cx ops Q W fuel listed s := fun μ a w hr => by
  subst hb
  exact h μ a w (hr.dup hg)
theorem GH2.lit {W : List Nat} {fuel : Nat} {listed : Array Bool} (t : Nat) {b v : Bool} (hg : get s.fr t = some (.val (.bool b))) (hb : b = v) (h : GH2 P N cx ops Q W fuel listed { fr := (t, .val (.bool v)) :: s.fr, st := s.st, df := s.df }) : GH2 P N cx ops Q W fuel listed s := fun ws Wb μ a w hr => by
  subst hb
  exact h ws Wb μ a w (hr.dup hg)

/-- One of two loads may come up first. -/
theorem GH2.twoY {W : List Nat} {fuel : Nat} {listed : Array Bool} (i i' : Nat) {o o' : Oper} {d d' : Nat} {g g' : G} (hr : Region.ready .any ops listed = [i, i']) (hi : ops[i]? = some o) (hi' : ops[i']? = some o')
    (hw : wants ops s o.guard = some true) (hw' : wants ops s o'.guard = some true) (hd : o.dst = some d) (hd' : o'.dst = some d') (hN : d < N) (hN' : d' < N) (hy : Yield P [] s o g) (hy' : Yield P [] s o' g')
    (h : GH2 P N cx ops Q W fuel (listed.setIfInBounds i true) (s.put d g)) (h' : GH2 P N cx ops Q W fuel (listed.setIfInBounds i' true) (s.put d' g')) : GH2 P N cx ops Q W (fuel + 1) listed s := by
  intro ws Wb μ a w hrel hS hW
  have key : ∀ (j : Nat) (o : Oper) (d : Nat) (g : G), ops[j]? = some o → wants ops s o.guard = some true → o.dst = some d → d < N → Yield P [] s o g → GH2 P N cx ops Q W fuel (listed.setIfInBounds j true) (s.put d g) →
      wpOp P ops (lift N cx Q) j (fun a' w' => Sw ws Wb w' ∧ wpAnyH P .any ops (lift N cx Q) (Sw ws Wb) fuel (listed.setIfInBounds j true) a' w') a w := by
    intro j o d g hi hw hd hN hy h
    obtain ⟨v, hv, hrun⟩ := hy N cx μ a w hrel
    have hrun := hrun w (Nat.le_refl _) (fun _ _ _ => rfl)
    unfold wpOp
    simp only [hi]
    rw [if_pos (wants_spec hrel hw)]
    refine .inl ?_
    unfold Oper.wp
    rw [hrun]
    show Sw ws Wb w ∧ _
    refine ⟨hS, ?_⟩
    rw [hd]
    exact h ws Wb μ _ w (hrel.put hN hv) hS hW
  refine wpAnyH_all hr (by simp) fun j hj => ?_
  have hj' : j = i ∨ j = i' := by simpa using hj
  rcases hj' with rfl | rfl
  · exact key j o d g hi hw hd hN hy h
  · exact key j o' d' g' hi' hw' hd' hN' hy' h'
end

section
variable {α : Type} [Enc α]
variable {P : Program} {N : Nat} {cx : Cx} {s : St} {W : List Nat}
variable {dst : Option Tmp} {ty : TypeId} {pos : String} {after : Array Edge} {guard : Option (Nat × Bool)}

/-- An element's cell, read out of a fresh list. -/
theorem YT.eltF {l : List α} {i : Int} {x : α} {t : TypeId} {xo : Operand} {g g' : G} (hx : ev s xo = some (.fr (.ptr ((encs l).drop (i.toNat * Enc.sz α))))) (h : idx l i = some x) (hg : (Enc.cells x)[0]? = some g) (hag : ∀ w, (isAgg t).run P w = .ok false w) (hout : frG g = g') :
    Yield P W s ⟨dst, .load t xo, ty, pos, after, guard⟩ g' := YL.ptrF hx (by rw [List.getElem?_drop]; exact at_cell h hg) hag hout
theorem YT.eltJF {l : List α} {i : Int} {x : α} {t j : Nat} {xo : Operand} {g g' : G} (hx : ev s xo = some (.fr (.ptr (((encs l).drop (i.toNat * Enc.sz α)).drop j)))) (h : idx l i = some x) (hg : (Enc.cells x)[j]? = some g) (hag : ∀ w, (isAgg t).run P w = .ok false w) (hout : frG g = g') :
    Yield P W s ⟨dst, .load t xo, ty, pos, after, guard⟩ g' := YL.ptrF hx (by rw [List.getElem?_drop, List.getElem?_drop]; simpa using at_cell h hg) hag hout
theorem YT.aggF {l : List α} {i : Int} {x : α} {t : TypeId} {xo : Operand} (hx : ev s xo = some (.fr (.ptr ((encs l).drop (i.toNat * Enc.sz α))))) (h : idx l i = some x) (hag : ∀ w, (isAgg t).run P w = .ok true w)
    (hsz : ∀ w, (sizeOf t).run P w = .ok (Enc.sz α) w) : Yield P W s ⟨dst, .load t xo, ty, pos, after, guard⟩ (.agg ((Enc.cells x).map frG)) := by
  have := YL.ptrAggF (P := P) (W := W) (dst := dst) (ty := ty) (pos := pos) (after := after) (guard := guard) hx (sz := Enc.sz α) (by
    rw [List.length_drop, encs_length]
    have h1 := (List.getElem?_eq_some_iff.1 (idx_spec h).2.2).1
    have : (i.toNat + 1) * Enc.sz α ≤ l.length * Enc.sz α := Nat.mul_le_mul_right _ h1
    rw [Nat.add_mul] at this
    omega) hag hsz
  rw [encs_sub h] at this
  exact this
end
end Go.AM
