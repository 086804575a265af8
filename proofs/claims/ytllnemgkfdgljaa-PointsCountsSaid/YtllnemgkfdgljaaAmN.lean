/-
  AM, part N: the steps in the form in which a walk takes them; encodings.
-/
import Derived.Test.YtllnemgkfdgljaaAmM
set_option linter.unusedSectionVars false
set_option linter.unusedSimpArgs false
set_option linter.unusedVariables false
namespace Go.AM

section
variable {P : Program} {N : Nat} {cx : Cx} {Q : Exit → St → Prop} {s : St} {ops : Array Oper} {rest : List Oper}
variable {d : Nat} {op : Op} {ty : TypeId} {pos : String} {after : Array Edge} {guard : Option (Nat × Bool)}

theorem GL.py {g : G} (hy : PY P s ⟨some d, op, ty, pos, after, guard⟩ g) (hw : wants ops s guard = some true) (hN : Nat.blt d N = true) (h : GL P N cx ops Q rest (s.put d g)) :
    GL P N cx ops Q (⟨some d, op, ty, pos, after, guard⟩ :: rest) s := GL.yield hw rfl (by simpa [Nat.blt_eq] using hN) (hy.yield []) h
theorem GL.y {g : G} (hy : Yield P [] s ⟨some d, op, ty, pos, after, guard⟩ g) (hw : wants ops s guard = some true) (hN : Nat.blt d N = true) (h : GL P N cx ops Q rest (s.put d g)) :
    GL P N cx ops Q (⟨some d, op, ty, pos, after, guard⟩ :: rest) s := GL.yield hw rfl (by simpa [Nat.blt_eq] using hN) hy h
theorem GL.e {W : List Nat} {T : St → Prop} (he : Effect P W s ⟨some d, op, ty, pos, after, guard⟩ T) (hw : wants ops s guard = some true) (hN : Nat.blt d N = true) (h : ∀ s', T s' → GL P N cx ops Q rest s') :
    GL P N cx ops Q (⟨some d, op, ty, pos, after, guard⟩ :: rest) s := GL.effect hw (fun d' e => by cases e; simpa [Nat.blt_eq] using hN) he h
theorem GL.e1 {W : List Nat} {s1 : St} (he : Effect P W s ⟨some d, op, ty, pos, after, guard⟩ (· = s1)) (hw : wants ops s guard = some true) (hN : Nat.blt d N = true) (h : GL P N cx ops Q rest s1) :
    GL P N cx ops Q (⟨some d, op, ty, pos, after, guard⟩ :: rest) s := GL.e he hw hN fun _ e => e ▸ h
theorem GL.e0 {W : List Nat} {s1 : St} (he : Effect P W s ⟨none, op, ty, pos, after, guard⟩ (· = s1)) (hw : wants ops s guard = some true) (h : GL P N cx ops Q rest s1) :
    GL P N cx ops Q (⟨none, op, ty, pos, after, guard⟩ :: rest) s := GL.effect hw (fun d' e => by cases e) he fun _ e => e ▸ h
theorem GL.no (hw : wants ops s guard = some false) (h : GL P N cx ops Q rest { s with fr := del s.fr d }) :
    GL P N cx ops Q (⟨some d, op, ty, pos, after, guard⟩ :: rest) s := GL.pass hw h

theorem GW.seqN {x y : Code} (h : GW P N cx x (Ethen (GW P N cx y Q) Q) s) : GW P N cx (.seq x y) Q s := GW.seq h
theorem GL.nilN {next : St → Prop} (h : next s) : GL P N cx ops (Ethen next Q) [] s := GL.nil h
end

/-- A list of int. -/
def ints (l : List Int) : List G := l.map fun n => .val (.int .i64 n)
@[simp] theorem ints_length (l : List Int) : (ints l).length = l.length := by simp [ints]
theorem ints_drop0 {l : List Int} {i : Nat} {x : Int} (h : l[i]? = some x) : ((ints l).drop (i * 1))[0]? = some (.val (.int .i64 x)) := by
  simp [ints, h]
theorem ints_get {l : List Int} {i : Nat} {x : Int} (h : l[i]? = some x) : (ints l)[0 + i * 1]? = some (.val (.int .i64 x)) := by
  simp [ints, h]

end Go.AM
