/-
  Orders: the plain law: an order of one statement at one point.
-/
import Derived.Test.YtfkigaldejbeiaaOtC
set_option linter.unusedSectionVars false
set_option linter.unusedSimpArgs false
set_option linter.unusedVariables false
namespace Go.DN
open Go.AM
theorem nilF_at {ρ : Type} {n : Int} {m1 m2 : Option ρ} (h : m1 = m2) : nilF n m1 m2 = m1 := by
 unfold nilF
 subst h
 simp
theorem clone0 (fu : Nat) : F.slices_Clone fu [] = some [] := nilF_at (by
 rw [chk_pos (by decide)]; rfl)
theorem walk0 (f : Nat) : F.points_walk_4 (f + 20) ⟨[], []⟩ 0 [] 0 [([] : List SRow)] 0 0 0 [] [] = some (true, [], 0, [[]], 0, 0, 0, [], [⟨⟨0, []⟩, 0, []⟩]) := by
 show F.points_walk_4_b (F.points_walk_4 (f + 19)) (f + 20) ⟨[], []⟩ 0 [] 0 [([] : List SRow)] 0 0 0 [] [] = _
 unfold F.points_walk_4_b
 rw [clone0]
 rfl
theorem all0 (f : Nat) : F.points_All_1 (f + 20) 0 [] [] [([] : List SRow)] 0 0 0 [] [] = some (0, [], [], [[]], 0, 0, 0, [], [⟨⟨0, []⟩, 0, []⟩]) := by
 unfold F.points_All_1
 show (F.points_Wrong (f + 20) (⟨[], []⟩ : SPoints)).bind _ = _
 have e : F.points_Wrong (f + 20) (⟨[], []⟩ : SPoints) = some 0 := rfl
 rw [e, Option.bind_some]
 have e2 : ((0 : Int) == 0) = true := rfl
 have e3 : List.replicate (Int.toNat (([] : List Int).length : Int)) (0 : Int) = [] := rfl
 rw [e2, cond_true, e3, walk0]
 rfl
def n0 : SNest := ⟨[1], [(⟨(⟨([] : List Int), ([] : List SRow)⟩ : SPoints), 1, 7, (⟨0, (⟨([] : List Int), 0⟩ : SRow)⟩ : SAccess), ([] : List SAccess)⟩ : SStmt)]⟩
theorem loopF_inl {σ ρ : Type} {body : σ → Option (σ ⊕ ρ)} {n : Nat} {x y : σ} (h : body x = some (.inl y)) : loopF body (n + 1) x = loopF body n y := by
 simp only [loopF, h]
theorem spotsL0 (f : Nat) : loopF (F.order_spots_l2 (f + 20) n0) (f + 20) (0, [([] : List SRow)], 0, 0, [], []) = some (Ex.brk ([[]], 0, 0, [], [⟨⟨0, []⟩, 0, []⟩])) := by
 have e : F.order_spots_l2 (f + 20) n0 (0, [([] : List SRow)], 0, 0, [], []) = some (.inl (1, [([] : List SRow)], 0, 0, [], [⟨⟨0, []⟩, 0, []⟩])) := by
  show (F.points_All_1 (f + 20) 0 [] [] [([] : List SRow)] 0 0 0 [] []).bind _ = _
  rw [all0]
  rfl
 exact (loopF_inl (n := f + 19) e).trans rfl
theorem spots0 (f : Nat) : F.order_spots (f + 20) n0 [([] : List SRow)] = some (0, [⟨⟨0, []⟩, 0, []⟩]) := by
 unfold F.order_spots
 have e : F.order_Wrong (f + 20) n0 [([] : List SRow)] = some 0 := rfl
 have e2 : ((0 : Int) != 0) = false := rfl
 have e3 : loopF (F.order_spots_l1 (f + 20) [([] : List SRow)]) (f + 20) (0, 0) = some 0 := rfl
 rw [e, Option.bind_some, e2, cond_false, e3, Option.bind_some, spotsL0]
 rfl
theorem alive_ok (f : Nat) : F.adjointlaw11_alive (f + 20) = some true := by
 unfold F.adjointlaw11_alive
 show (F.order_Run (f + 20) n0 [([] : List SRow)] [[0]] []).bind _ = _
 have e : F.order_Run (f + 20) n0 [([] : List SRow)] [[0]] [] = some ([[7]], 0) := by
  unfold F.order_Run
  rw [spots0]
  rfl
 rw [e]
 rfl
end Go.DN
