/-
  AM, part BH: a slice of the call's own in the place of one that was lent.
-/
import Derived.Test.YtllnemgkfdgljaaBmG
set_option linter.unusedSectionVars false
set_option linter.unusedSimpArgs false
set_option linter.unusedVariables false
namespace Go.AM
section
variable {P : Program} {N : Nat} {cx : Cx} {Q : Exit → St → Prop} {s : St} {ops : Array Oper} {rest : List Oper}
/-- Whose a block is, is forgotten. -/
theorem GL.unmine (hh : Nat) {k : Blk} (hk : sget s.st hh = some k) (h : GL P N cx ops Q rest { fr := s.fr, st := (hh, { k with mine := false }) :: s.st, df := s.df }) (hlp : k.lp = none := by rfl) : GL P N cx ops Q rest s :=
  fun μ a w hr => h μ a w (hr.reblk hk rfl rfl (fun h => by cases h) id rfl rfl hlp hlp)
theorem Eblock_hit {id : Nat} {R : Exit → St → Prop} {s : St} (h : R .normal s) : Eblock id R (.exit id) s := by
  show Eblock id R (.exit id) s
  simp only [Eblock, if_true]; exact h
theorem Eblock_pass {id : Nat} {R : Exit → St → Prop} {s : St} (h : R .normal s) : Eblock id R .normal s := h
theorem SubSt.trans {a b : List (Nat × Blk)} (h : SubSt a b) : ∀ {c : List (Nat × Blk)}, SubSt b c → SubSt a c
  | [], _ => trivial
  | (t, g) :: r, hc => ⟨h.get hc.1, h.trans hc.2⟩
theorem RoundQ.weak {Qr : Option Code → List (Nat × Blk) → Prop} {e : Exit} {s s' : St} (h : Sub s s') (hq : RoundQ Qr e s') : RoundQ Qr e s := by
  obtain ⟨h1, st', h2, h3⟩ := hq
  exact ⟨h.2.2.trans h1, st', h.2.1.trans h2, h3⟩
end
end Go.AM
