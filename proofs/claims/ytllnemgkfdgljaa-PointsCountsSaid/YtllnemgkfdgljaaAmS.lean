/-
  AM, part S: is a slice nil?
-/
import Derived.Test.YtllnemgkfdgljaaAmR
import Derived.WalkSpells
set_option linter.unusedSectionVars false
set_option linter.unusedSimpArgs false
set_option linter.unusedVariables false
namespace Go.AM

/-- Two ways that must come to the same: where a slice has no elements it can be nil or not. -/
noncomputable def nilF {ρ : Type} (n : Int) (m1 m2 : Option ρ) : Option ρ := open Classical in if n = 0 then (if m1 = m2 then m1 else none) else m2
theorem nilF_spec {ρ : Type} {n : Int} {m1 m2 : Option ρ} {r : ρ} (h : nilF n m1 m2 = some r) : (n = 0 → m1 = some r) ∧ m2 = some r := by
  unfold nilF at h
  split at h
  · split at h
    · rename_i e; exact ⟨fun _ => h, e ▸ h⟩
    · cases h
  · exact ⟨fun e => absurd e (by assumption), h⟩
theorem nilF_same {ρ : Type} {n : Int} {m : Option ρ} : nilF n m m = m := by
  unfold nilF; split <;> simp
theorem nilF_eq {ρ : Type} {n : Int} {m1 m2 : Option ρ} (h : n = 0 → m1 = m2) : nilF n m1 m2 = m2 := by
  unfold nilF
  split
  · rename_i e; rw [if_pos (h e)]; exact h e
  · rfl

section
variable {P : Program} {N : Nat} {cx : Cx} {Q : Exit → St → Prop} {s : St} {ops : Array Oper} {rest : List Oper}

theorem RepV.sliceLen {O : Nat → Prop} {base : Nat} {w : World} {μ : Mu} {g : G} {v : Value} {n : Int} (h : RepV O base w μ g v) (hn : lenG g = some n) : ∃ b m c, v = .slice b m c ∧ (m : Int) = n ∧ (b = none → n = 0) := by
  have sl : ∀ (O : Nat → Prop) (n : Nat) (cells : List G) (v : Value), RepI O w (.sl n cells) v → ∃ b m c, v = .slice b m c ∧ m = n ∧ (b = none → n = 0) := by
    intro O n cells v h
    cases h with
    | nil => exact ⟨none, 0, 0, rfl, rfl, fun _ => rfl⟩
    | emp a cap => exact ⟨some a, 0, cap, rfl, rfl, fun h => rfl⟩
    | sl _ _ b off cap => exact ⟨_, n, cap, rfl, rfl, fun h => by cases h⟩
  cases g with
  | sl n' cells =>
    cases hn
    cases h with
    | imm h => obtain ⟨b, m, c, e1, e2, e3⟩ := sl _ _ _ _ h; exact ⟨b, m, c, e1, by rw [e2], fun h => by rw [e3 h]; rfl⟩
  | fr g =>
    cases h with
    | imm h => cases h
    | fr h =>
      cases g with
      | sl n' cells => cases hn; obtain ⟨b, m, c, e1, e2, e3⟩ := sl _ _ _ _ h; exact ⟨b, m, c, e1, by rw [e2], fun h => by rw [e3 h]; rfl⟩
      | _ => cases hn
  | osl h' sz off n' =>
    cases hn
    cases h with
    | imm h => cases h
    | onil => exact ⟨none, 0, 0, rfl, rfl, fun _ => rfl⟩
    | osl _ _ _ _ b m cap => exact ⟨_, n', cap, rfl, rfl, fun h => by cases h⟩
    | ozero _ _ off0 b m _ _ => exact ⟨_, 0, 0, rfl, rfl, fun _ => rfl⟩
  | val v0 =>
    cases h with
    | imm h =>
      cases h
      cases v with
      | slice b m c =>
        cases b with
        | none => cases m with
          | zero => cases c with
            | zero => cases hn; exact ⟨none, 0, 0, rfl, rfl, fun _ => rfl⟩
            | succ c => cases hn
          | succ m => cases hn
        | some b => cases hn
      | _ => cases hn
  | _ => cases hn

theorem run_eqnil {t e : TypeId} (ht : P.underlying t = some (.slice e)) (xo yo : Operand) (b : Option Addr) (m c : Nat) (w : World) :
    (do eqGuard .eql t xo yo (.slice b m c) (.slice none 0 0); binOp .eql t (.slice b m c) (.slice none 0 0) : Sem Value).run P w = .ok (.bool b.isNone) w := by
  have h := Lib.run_eql_slice_nil (P := P) w t e b m c 0 0 ht
  have hg : (eqGuard .eql t xo yo (.slice b m c) (.slice none 0 0)).run P w = .ok () w := by simp [eqGuard]
  simp only [Sem.run_bind, hg, Result.andThen_ok, h]
theorem run_nenil {t e : TypeId} (ht : P.underlying t = some (.slice e)) (xo yo : Operand) (b : Option Addr) (m c : Nat) (w : World) :
    (do eqGuard .neq t xo yo (.slice b m c) (.slice none 0 0); binOp .neq t (.slice b m c) (.slice none 0 0) : Sem Value).run P w = .ok (.bool (!b.isNone)) w := by
  have h := run_neq_slice_nil_any (P := P) w t e b m c 0 0 ht
  have hg : (eqGuard .neq t xo yo (.slice b m c) (.slice none 0 0)).run P w = .ok () w := by simp [eqGuard]
  simp only [Sem.run_bind, hg, Result.andThen_ok, h]

theorem GL.put' {o : Oper} {d : Nat} {g : G} {v : Value} {μ : Mu} {a : Act} {w : World} (hr : Rel N cx μ s a w) (hw : wants ops s o.guard = some true) (hd : o.dst = some d) (hN : d < N) (hv : RepV (cx.O s.st μ) cx.base w μ g v)
    (hrun : (execOp a.eval o).run P w = .ok (.value v) w) (h : GL P N cx ops Q rest (s.put d g)) : wpListIn (FF cx.ro) 0 P ops (lift N cx Q) (o :: rest) a w := by
  unfold wpListIn
  rw [if_pos (by rw [wants_spec hr hw])]
  refine operIn (execOp_value_noDefer hrun) ?_
  unfold Oper.wp
  rw [hrun]
  show wpListIn (FF cx.ro) 0 P ops (lift N cx Q) rest (a.put o.dst v) w
  rw [hd]
  exact h μ _ w (hr.put hN hv)

theorem GL.eqnil {d : Nat} {t t' e : TypeId} {x : Operand} {ty : TypeId} {pos : String} {after : Array Edge} {guard : Option (Nat × Bool)} {g : G} {n : Int} (hx : ev s x = some g) (hn : lenG g = some n) (ht : P.underlying t = some (.slice e))
    (hw : wants ops s guard = some true) (hN : Nat.blt d N = true) (h : ∀ b : Bool, (b = true → n = 0) → GL P N cx ops Q rest (s.put d (.val (.bool b)))) :
    GL P N cx ops Q (⟨some d, .binOp .eql t x (.const (.slice none 0 0)) t', ty, pos, after, guard⟩ :: rest) s := fun μ a w hr => by
  obtain ⟨b, m, c, e1, e2, e3⟩ := (hr.ev hx).sliceLen hn
  refine GL.put' hr hw rfl (by simpa [Nat.blt_eq] using hN) (.imm (.val (.bool b.isNone))) ?_ (h _ fun hb => e3 (by simpa using hb))
  have := run_eqnil (P := P) ht x (.const (.slice none 0 0)) b m c w
  simp only [execOp, e1, show a.eval (.const (.slice none 0 0)) = .slice none 0 0 from rfl, Sem.run_bind, this, Result.andThen_ok, Sem.run_pure]
theorem GL.nenil {d : Nat} {t t' e : TypeId} {x : Operand} {ty : TypeId} {pos : String} {after : Array Edge} {guard : Option (Nat × Bool)} {g : G} {n : Int} (hx : ev s x = some g) (hn : lenG g = some n) (ht : P.underlying t = some (.slice e))
    (hw : wants ops s guard = some true) (hN : Nat.blt d N = true) (h : ∀ b : Bool, (b = true → n = 0) → GL P N cx ops Q rest (s.put d (.val (.bool (!b))))) :
    GL P N cx ops Q (⟨some d, .binOp .neq t x (.const (.slice none 0 0)) t', ty, pos, after, guard⟩ :: rest) s := fun μ a w hr => by
  obtain ⟨b, m, c, e1, e2, e3⟩ := (hr.ev hx).sliceLen hn
  refine GL.put' hr hw rfl (by simpa [Nat.blt_eq] using hN) (.imm (.val (.bool (!b.isNone)))) ?_ (h _ fun hb => e3 (by simpa using hb))
  have := run_nenil (P := P) ht x (.const (.slice none 0 0)) b m c w
  simp only [execOp, e1, show a.eval (.const (.slice none 0 0)) = .slice none 0 0 from rfl, Sem.run_bind, this, Result.andThen_ok, Sem.run_pure]
end
end Go.AM
