/-
  The functions that the law reaches, as partial functions over plain data (printed by wip/tools/gen.py).
-/
import Derived.Test.YtllnemgkfdgljaaBmG
namespace Go.Proofs.Ytllnemgkfdgljaa
open Go.AM
set_option linter.unusedVariables false
structure SRow where
  Coef : (List Int)
  Const : Int
def okSRow (a : SRow) : Prop := (okL okI) a.Coef ∧ okI a.Const
instance : Enc SRow := ⟨2, fun a => [.sl (List.length a.Coef) (encs a.Coef), .val (.int .i64 a.Const)], fun _ => rfl, by decide, fun a g h => by simp at h; rcases h with rfl | rfl <;> rfl⟩
structure SPoints where
  Box : (List Int)
  Rows : (List SRow)
def okSPoints (a : SPoints) : Prop := (okL okI) a.Box ∧ (okL okSRow) a.Rows
instance : Enc SPoints := ⟨2, fun a => [.sl (List.length a.Box) (encs a.Box), .sl (List.length a.Rows) (encs a.Rows)], fun _ => rfl, by decide, fun a g h => by simp at h; rcases h with rfl | rfl <;> rfl⟩
namespace F
noncomputable section

def points_Row_1 (fu : Nat) (n0 : Int) : Option Bool := (cond (decide (n0 < (-1048576))) (some true) (some (decide (n0 > 1048576)))).bind fun (i1 : Bool) => some i1

def slices_IndexFunc_l1 (fu : Nat) (s0 : (List Int)) : Int → Option (Int ⊕ (Ex Unit Int)) := fun i1 => cond (decide (i1 < (List.length s0 : Int))) ((idx s0 i1).bind fun x2 => (F.points_Row_1 fu x2).bind fun r3 => cond r3 (some (.inr (.ret i1))) (some (.inl (IntKind.i64.wrap (i1 + 1))))) (some (.inr (.brk ())))
def slices_IndexFunc (fu : Nat) (s0 : (List Int)) : Option Int := bindE id (loopF (slices_IndexFunc_l1 fu s0) fu 0) fun (_ : Unit) => some (-1)

def slices_ContainsFunc (fu : Nat) (s0 : (List Int)) : Option Bool := (F.slices_IndexFunc fu s0).bind fun r1 => some (decide (r1 ≥ 0))

def points_Row (fu : Nat) (r0 : SRow) (vars0 : Int) : Option Int := cond ((List.length r0.Coef : Int) != vars0) (some 6) ((F.points_Row_1 fu r0.Const).bind fun r1 => (cond r1 (some true) ((F.slices_ContainsFunc fu r0.Coef).bind fun r2 => some r2)).bind fun (i3 : Bool) => cond i3 (some 4) (some 0))

def points_Wrong_l1 (fu : Nat) (p0 : SPoints) : Int → Option (Int ⊕ (Ex Unit Int)) := fun i1 => cond (decide (i1 < (List.length p0.Box : Int))) ((idx p0.Box i1).bind fun x2 => (cond (decide (x2 < 0)) (some true) (some (decide (x2 > 4096)))).bind fun (i3 : Bool) => cond i3 (some (.inr (.ret 4))) (some (.inl (IntKind.i64.wrap (i1 + 1))))) (some (.inr (.brk ())))
def points_Wrong_l2 (fu : Nat) (p0 : SPoints) : Int × Int → Option (Int × Int ⊕ Int) := fun (n4, i5) => cond (decide (i5 < (List.length p0.Box : Int))) ((idx p0.Box i5).bind fun x7 => some (.inl (IntKind.i64.wrap (n4 * x7), IntKind.i64.wrap (i5 + 1)))) (some (.inr n4))
def points_Wrong_l3 (fu : Nat) (p0 : SPoints) : Int → Option (Int ⊕ (Ex Unit Int)) := fun i8 => cond (decide (i8 < (List.length p0.Rows : Int))) ((idx p0.Rows i8).bind fun x9 => (F.points_Row fu x9 (List.length p0.Box : Int)).bind fun r10 => cond (r10 != 0) (some (.inr (.ret r10))) (some (.inl (IntKind.i64.wrap (i8 + 1))))) (some (.inr (.brk ())))
def points_Wrong (fu : Nat) (p0 : SPoints) : Option Int := cond (decide ((List.length p0.Box : Int) > 4)) (some 3) (bindE id (loopF (points_Wrong_l1 fu p0) fu 0) fun (_ : Unit) => (loopF (points_Wrong_l2 fu p0) fu (1, 0)).bind fun (n6 : Int) => cond (decide (n6 > 4096)) (some 5) (cond (decide ((List.length p0.Rows : Int) > 8)) (some 2) (bindE id (loopF (points_Wrong_l3 fu p0) fu 0) fun (_ : Unit) => some 0)))

def points_All (fu : Nat) (p0 : SPoints) : Option SPoints := some p0

def points_Nth_y1 (fu : Nat) (a0 : (List Int)) (c0 : Int) (c00 : (List Int)) (c000 : Int) : Option (Int × (List Int) × Int × Jp) := cond (c0 == 0) (some (c0, a0, 0, Jp.rt)) (some (IntKind.i64.wrap (c0 - 1), c00, c000, Jp.go))

def points_hopeless_l2 (fu : Nat) (x2 : SRow) (k0 : Int) (x0 : (List Int)) (p0 : SPoints) : Int × Int → Option (Int × Int ⊕ Int) := fun (n3, i4) => cond (decide (i4 < (List.length x2.Coef : Int))) ((idx x2.Coef i4).bind fun x6 => cond (decide (i4 < k0)) ((idx x0 i4).bind fun x7 => some (.inl (IntKind.i64.wrap (n3 + (IntKind.i64.wrap (x6 * x7))), IntKind.i64.wrap (i4 + 1)))) (cond (decide (x6 > 0)) ((idx p0.Box i4).bind fun x8 => some (.inl (IntKind.i64.wrap (n3 + (IntKind.i64.wrap (x6 * (IntKind.i64.wrap (x8 - 1))))), IntKind.i64.wrap (i4 + 1)))) (some (.inl (n3, IntKind.i64.wrap (i4 + 1)))))) (some (.inr n3))
def points_hopeless_l1 (fu : Nat) (p0 : SPoints) (k0 : Int) (x0 : (List Int)) : Int → Option (Int ⊕ (Ex Unit Bool)) := fun i1 => cond (decide (i1 < (List.length p0.Rows : Int))) ((idx p0.Rows i1).bind fun x2 => (loopF (points_hopeless_l2 fu x2 k0 x0 p0) fu (x2.Const, 0)).bind fun (n5 : Int) => cond (decide (n5 < 0)) (some (.inr (.ret true))) (some (.inl (IntKind.i64.wrap (i1 + 1))))) (some (.inr (.brk ())))
def points_hopeless (fu : Nat) (p0 : SPoints) (x0 : (List Int)) (k0 : Int) : Option Bool := bindE id (loopF (points_hopeless_l1 fu p0 k0 x0) fu 0) fun (_ : Unit) => some false

def slices_Clone (fu : Nat) (s0 : (List Int)) : Option (List Int) := nilF (List.length s0 : Int) (some []) ((chk ((List.length ([] : (List Int))) + (List.length s0) ≤ maxLen ∧ ((List.length ([] : (List Int))) + (List.length s0)) * 8 ≤ 140737488355328)).bind fun _ => some (([] : (List Int)) ++ s0))

def points_walk_l1 (fu : Nat) (rec : SPoints → Int → (List Int) → Int → (List Int) → Int → Option (Bool × (List Int) × Jp × Int × (List Int) × Int)) (k0 : Int) (p0 : SPoints) : (List Int) × Jp × Int × (List Int) × Int → Option ((List Int) × Jp × Int × (List Int) × Int ⊕ (Ex ((List Int) × Jp × Int × (List Int) × Int) (Bool × (List Int) × Jp × Int × (List Int) × Int))) := fun (x11, j12, c13, c14, c15) => (idx x11 k0).bind fun x21 => (idx p0.Box k0).bind fun x22 => cond (decide (x21 < x22)) ((chk (j12 = Jp.go)).bind fun _ => (rec p0 (IntKind.i64.wrap (k0 + 1)) x11 c13 c14 c15).bind fun ((o23, o24, o25, o26, o27, o28) : (Bool × (List Int) × Jp × Int × (List Int) × Int)) => (chk (List.length x11 = List.length o24)).bind fun _ => cond (!o23) (some (.inr (.ret (false, o24, o25, o26, o27, o28)))) ((idx o24 k0).bind fun x30 => some (.inl (List.set o24 (Int.toNat k0) (IntKind.i64.wrap (x30 + 1)), o25, o26, o27, o28)))) (some (.inr (.brk (x11, j12, c13, c14, c15))))
def points_walk_body (fu : Nat) (rec : SPoints → Int → (List Int) → Int → (List Int) → Int → Option (Bool × (List Int) × Jp × Int × (List Int) × Int)) (p0 : SPoints) (k0 : Int) (l0 : (List Int)) (c0 : Int) (c00 : (List Int)) (c000 : Int) : Option (Bool × (List Int) × Jp × Int × (List Int) × Int) := (F.points_hopeless fu p0 l0 k0).bind fun r1 => cond r1 (some (true, l0, Jp.go, c0, c00, c000)) (cond (k0 == (List.length p0.Box : Int)) ((F.slices_Clone fu l0).bind fun r3 => (F.points_Nth_y1 fu r3 c0 c00 c000).bind fun ((o4, o5, o6, o7) : (Int × (List Int) × Int × Jp)) => some (Jp.isGo o7, l0, o7, o4, o5, o6)) ((idx l0 k0).bind fun x10 => bindE id (loopF (points_walk_l1 fu rec k0 p0) fu (List.set l0 (Int.toNat k0) 0, Jp.go, c0, c00, c000)) fun ((l16, j17, c18, c19, c20) : (List Int) × Jp × Int × (List Int) × Int) => some (true, l16, j17, c18, c19, c20)))
def points_walk : Nat → SPoints → Int → (List Int) → Int → (List Int) → Int → Option (Bool × (List Int) × Jp × Int × (List Int) × Int)
  | 0, _, _, _, _, _, _ => none
  | fu + 1, p0, k0, l0, c0, c00, c000 => points_walk_body fu (points_walk fu) p0 k0 l0 c0 c00 c000

def points_All_1 (fu : Nat) (a0 : SPoints) (c0 : Int) (c00 : (List Int)) (c000 : Int) : Option (Jp × Int × (List Int) × Int) := (F.points_Wrong fu a0).bind fun r1 => cond (r1 == 0) ((chk (0 ≤ (List.length a0.Box : Int) ∧ (8 : Int) * (List.length a0.Box : Int) ≤ 281474976710656 ∧ (List.length a0.Box : Int) ≤ 9223372036854775807)).bind fun _ => (F.points_walk fu a0 0 (List.replicate (Int.toNat (List.length a0.Box : Int)) (0 : Int)) c0 c00 c000).bind fun ((o3, o4, o5, o6, o7, o8) : (Bool × (List Int) × Jp × Int × (List Int) × Int)) => (chk (List.length (List.replicate (Int.toNat (List.length a0.Box : Int)) (0 : Int)) = List.length o4)).bind fun _ => some (o5, o6, o7, o8)) (some (Jp.go, c0, c00, c000))

def points_Nth (fu : Nat) (p0 : SPoints) (n0 : Int) : Option ((List Int) × Int) := (F.points_Wrong fu p0).bind fun r1 => cond (r1 != 0) (some ([], r1)) (cond (decide (n0 < 0)) (some ([], 9)) ((F.points_All fu p0).bind fun r3 => (F.points_All_1 fu r3 n0 ([] : (List Int)) 0).bind fun ((o5, o6, o7, o8) : (Jp × Int × (List Int) × Int)) => cond (Jp.isRt o5) (some (o7, o8)) (some ([], 9))))

def adjointref9_Row_l1 (fu : Nat) (r0 : SRow) : Int → Option (Int ⊕ (Ex Unit Int)) := fun i1 => cond (decide (i1 < (List.length ([r0.Const] ++ r0.Coef) : Int))) ((idx ([r0.Const] ++ r0.Coef) i1).bind fun x2 => (cond (decide (x2 > 1048576)) (some true) (some (decide (x2 < (-1048576))))).bind fun (i3 : Bool) => cond i3 (some (.inr (.ret 4))) (some (.inl (IntKind.i64.wrap (i1 + 1))))) (some (.inr (.brk ())))
def adjointref9_Row (fu : Nat) (r0 : SRow) (vars0 : Int) : Option Int := cond ((List.length r0.Coef : Int) != vars0) (some 6) ((chk ((List.length [r0.Const]) + (List.length r0.Coef) ≤ maxLen ∧ ((List.length [r0.Const]) + (List.length r0.Coef)) * 8 ≤ 140737488355328)).bind fun _ => bindE id (loopF (adjointref9_Row_l1 fu r0) fu 0) fun (_ : Unit) => some 0)

def adjointref9_Wrong_l1 (fu : Nat) (p0 : SPoints) : Int × Int → Option (Int × Int ⊕ (Ex Int Int)) := fun (n1, i2) => cond (decide (i2 < (List.length p0.Box : Int))) ((idx p0.Box i2).bind fun x4 => (cond (decide (x4 < 0)) (some true) (some (decide (x4 > 4096)))).bind fun (i5 : Bool) => cond i5 (some (.inr (.ret 4))) (some (.inl (IntKind.i64.wrap (n1 * x4), IntKind.i64.wrap (i2 + 1))))) (some (.inr (.brk n1)))
def adjointref9_Wrong_l2 (fu : Nat) (p0 : SPoints) : Int → Option (Int ⊕ (Ex Unit Int)) := fun i6 => cond (decide (i6 < (List.length p0.Rows : Int))) ((idx p0.Rows i6).bind fun x7 => (F.adjointref9_Row fu x7 (List.length p0.Box : Int)).bind fun r8 => cond (r8 != 0) (some (.inr (.ret r8))) (some (.inl (IntKind.i64.wrap (i6 + 1))))) (some (.inr (.brk ())))
def adjointref9_Wrong (fu : Nat) (p0 : SPoints) : Option Int := cond (decide ((List.length p0.Box : Int) > 4)) (some 3) (bindE id (loopF (adjointref9_Wrong_l1 fu p0) fu (1, 0)) fun (n3 : Int) => cond (decide (n3 > 4096)) (some 5) (cond (decide ((List.length p0.Rows : Int) > 8)) (some 2) (bindE id (loopF (adjointref9_Wrong_l2 fu p0) fu 0) fun (_ : Unit) => some 0)))

def adjointref9_Box_l2 (fu : Nat) (rec : (List Int) → Option (List (List Int))) (box0 : (List Int)) (x6 : (List Int)) : Int × (List (List Int)) → Option (Int × (List (List Int)) ⊕ (List (List Int))) := fun (i7, out8) => (idx box0 (IntKind.i64.wrap ((List.length box0 : Int) - 1))).bind fun x10 => cond (decide (i7 < x10)) ((chk ((List.length ([] : (List Int))) + (List.length x6) ≤ maxLen ∧ ((List.length ([] : (List Int))) + (List.length x6)) * 8 ≤ 140737488355328)).bind fun _ => (chk ((List.length (([] : (List Int)) ++ x6)) + (List.length [i7]) ≤ maxLen ∧ ((List.length (([] : (List Int)) ++ x6)) + (List.length [i7])) * 8 ≤ 140737488355328)).bind fun _ => (chk ((List.length out8) + (List.length [(([] : (List Int)) ++ x6) ++ [i7]]) ≤ maxLen ∧ ((List.length out8) + (List.length [(([] : (List Int)) ++ x6) ++ [i7]])) * 24 ≤ 140737488355328)).bind fun _ => some (.inl (IntKind.i64.wrap (i7 + 1), out8 ++ [(([] : (List Int)) ++ x6) ++ [i7]]))) (some (.inr out8))
def adjointref9_Box_l1 (fu : Nat) (rec : (List Int) → Option (List (List Int))) (r1 : (List (List Int))) (box0 : (List Int)) : Int × (List (List Int)) → Option (Int × (List (List Int)) ⊕ (List (List Int))) := fun (i3, out4) => cond (decide (i3 < (List.length r1 : Int))) ((idx r1 i3).bind fun x6 => (loopF (adjointref9_Box_l2 fu rec box0 x6) fu (0, out4)).bind fun (out9 : (List (List Int))) => some (.inl (IntKind.i64.wrap (i3 + 1), out9))) (some (.inr out4))
def adjointref9_Box_body (fu : Nat) (rec : (List Int) → Option (List (List Int))) (box0 : (List Int)) : Option (List (List Int)) := cond ((List.length box0 : Int) == 0) (some [([] : (List Int))]) ((chk ((0 : Int) ≤ (IntKind.i64.wrap ((List.length box0 : Int) - 1)) ∧ (IntKind.i64.wrap ((List.length box0 : Int) - 1)) ≤ (List.length box0 : Int))).bind fun _ => (rec (lpart box0 0 (IntKind.i64.wrap ((List.length box0 : Int) - 1)))).bind fun r1 => (loopF (adjointref9_Box_l1 fu rec r1 box0) fu (0, ([] : (List (List Int))))).bind fun (out5 : (List (List Int))) => some out5)
def adjointref9_Box : Nat → (List Int) → Option (List (List Int))
  | 0, _ => none
  | fu + 1, box0 => adjointref9_Box_body fu (adjointref9_Box fu) box0

def adjointref9_At_l1 (fu : Nat) (r0 : SRow) (x0 : (List Int)) : Int × Int → Option (Int × Int ⊕ Int) := fun (n1, i2) => cond (decide (i2 < (List.length r0.Coef : Int))) ((idx r0.Coef i2).bind fun x4 => (idx x0 i2).bind fun x5 => some (.inl (IntKind.i64.wrap (n1 + (IntKind.i64.wrap (x4 * x5))), IntKind.i64.wrap (i2 + 1)))) (some (.inr n1))
def adjointref9_At (fu : Nat) (r0 : SRow) (x0 : (List Int)) : Option Int := (loopF (adjointref9_At_l1 fu r0 x0) fu (r0.Const, 0)).bind fun (n3 : Int) => some n3

def adjointref9_All_l2 (fu : Nat) (p0 : SPoints) (x6 : (List Int)) : Bool × Int → Option (Bool × Int ⊕ Bool) := fun (ok7, i8) => cond (decide (i8 < (List.length p0.Rows : Int))) ((idx p0.Rows i8).bind fun x10 => (cond ok7 ((F.adjointref9_At fu x10 x6).bind fun r11 => some (decide (r11 ≥ 0))) (some false)).bind fun (ok12 : Bool) => some (.inl (ok12, IntKind.i64.wrap (i8 + 1)))) (some (.inr ok7))
def adjointref9_All_l1 (fu : Nat) (r1 : (List (List Int))) (p0 : SPoints) : Int × (List (List Int)) → Option (Int × (List (List Int)) ⊕ (List (List Int))) := fun (i3, out4) => cond (decide (i3 < (List.length r1 : Int))) ((idx r1 i3).bind fun x6 => (loopF (adjointref9_All_l2 fu p0 x6) fu (true, 0)).bind fun (ok9 : Bool) => cond ok9 ((chk ((List.length out4) + (List.length [x6]) ≤ maxLen ∧ ((List.length out4) + (List.length [x6])) * 24 ≤ 140737488355328)).bind fun _ => some (.inl (IntKind.i64.wrap (i3 + 1), out4 ++ [x6]))) (some (.inl (IntKind.i64.wrap (i3 + 1), out4)))) (some (.inr out4))
def adjointref9_All (fu : Nat) (p0 : SPoints) : Option (List (List Int)) := (F.adjointref9_Box fu p0.Box).bind fun r1 => (loopF (adjointref9_All_l1 fu r1 p0) fu (0, ([] : (List (List Int))))).bind fun (out5 : (List (List Int))) => some out5

def adjointref9_Nth (fu : Nat) (p0 : SPoints) (n0 : Int) : Option ((List Int) × Int) := (F.adjointref9_Wrong fu p0).bind fun r1 => cond (r1 != 0) (some ([], r1)) ((F.adjointref9_All fu p0).bind fun r3 => (cond (decide (n0 < 0)) (some true) (some (decide (n0 ≥ (List.length r3 : Int))))).bind fun (i5 : Bool) => cond i5 (some ([], 9)) ((idx r3 n0).bind fun x6 => some (x6, 0)))

def adjointref2_SameList_l1 (fu : Nat) (a0 : (List Int)) (b0 : (List Int)) : Int → Option (Int ⊕ (Ex Unit Bool)) := fun i1 => cond (decide (i1 < (List.length a0 : Int))) ((idx a0 i1).bind fun x2 => (idx b0 i1).bind fun x3 => cond (x2 != x3) (some (.inr (.ret false))) (some (.inl (IntKind.i64.wrap (i1 + 1))))) (some (.inr (.brk ())))
def adjointref2_SameList (fu : Nat) (a0 : (List Int)) (b0 : (List Int)) : Option Bool := cond ((List.length a0 : Int) != (List.length b0 : Int)) (some false) (bindE id (loopF (adjointref2_SameList_l1 fu a0 b0) fu 0) fun (_ : Unit) => some true)

def points_At_l1 (fu : Nat) (r0 : SRow) (x0 : (List Int)) : Int × Int → Option (Int × Int ⊕ Int) := fun (n1, i2) => cond (decide (i2 < (List.length r0.Coef : Int))) ((idx r0.Coef i2).bind fun x4 => (idx x0 i2).bind fun x5 => some (.inl (IntKind.i64.wrap (n1 + (IntKind.i64.wrap (x4 * x5))), IntKind.i64.wrap (i2 + 1)))) (some (.inr n1))
def points_At (fu : Nat) (r0 : SRow) (x0 : (List Int)) : Option Int := (loopF (points_At_l1 fu r0 x0) fu (r0.Const, 0)).bind fun (n3 : Int) => some n3

def points_inside_1 (fu : Nat) (r0 : SRow) (a0 : (List Int)) : Option Bool := (F.points_At fu r0 a0).bind fun r1 => some (decide (r1 < 0))

def slices_IndexFunc_2_l1 (fu : Nat) (s0 : (List SRow)) (f0 : (List Int)) : Int → Option (Int ⊕ (Ex Unit Int)) := fun i1 => cond (decide (i1 < (List.length s0 : Int))) ((idx s0 i1).bind fun x2 => (F.points_inside_1 fu x2 f0).bind fun r3 => cond r3 (some (.inr (.ret i1))) (some (.inl (IntKind.i64.wrap (i1 + 1))))) (some (.inr (.brk ())))
def slices_IndexFunc_2 (fu : Nat) (s0 : (List SRow)) (f0 : (List Int)) : Option Int := bindE id (loopF (slices_IndexFunc_2_l1 fu s0 f0) fu 0) fun (_ : Unit) => some (-1)

def slices_ContainsFunc_2 (fu : Nat) (s0 : (List SRow)) (f0 : (List Int)) : Option Bool := (F.slices_IndexFunc_2 fu s0 f0).bind fun r1 => some (decide (r1 ≥ 0))

def points_inside_l1 (fu : Nat) (p0 : SPoints) (x0 : (List Int)) : Int → Option (Int ⊕ (Ex Unit Bool)) := fun i1 => cond (decide (i1 < (List.length p0.Box : Int))) ((idx p0.Box i1).bind fun x2 => (idx x0 i1).bind fun x3 => (cond (decide (x3 < 0)) (some true) (some (decide (x3 ≥ x2)))).bind fun (i4 : Bool) => cond i4 (some (.inr (.ret false))) (some (.inl (IntKind.i64.wrap (i1 + 1))))) (some (.inr (.brk ())))
def points_inside (fu : Nat) (p0 : SPoints) (x0 : (List Int)) : Option Bool := bindE id (loopF (points_inside_l1 fu p0 x0) fu 0) fun (_ : Unit) => (F.slices_ContainsFunc_2 fu p0.Rows x0).bind fun r5 => some (!r5)

def slices_Equal_l1 (fu : Nat) (s0 : (List Int)) (s00 : (List Int)) : Int → Option (Int ⊕ (Ex Unit Bool)) := fun i1 => cond (decide (i1 < (List.length s0 : Int))) ((idx s0 i1).bind fun x2 => (idx s00 i1).bind fun x3 => cond (x2 != x3) (some (.inr (.ret false))) (some (.inl (IntKind.i64.wrap (i1 + 1))))) (some (.inr (.brk ())))
def slices_Equal (fu : Nat) (s0 : (List Int)) (s00 : (List Int)) : Option Bool := cond ((List.length s0 : Int) != (List.length s00 : Int)) (some false) (bindE id (loopF (slices_Equal_l1 fu s0 s00) fu 0) fun (_ : Unit) => some true)

def points_Ahead_y1 (fu : Nat) (a0 : (List Int)) (c0 : (List Int)) (c00 : Int) : Option (Int × Jp) := (F.slices_Equal fu c0 a0).bind fun r1 => cond r1 (some (c00, Jp.ex)) (some (IntKind.i64.wrap (c00 + 1), Jp.go))

def points_walk_2_l1 (fu : Nat) (rec : SPoints → Int → (List Int) → (List Int) → Int → Option (Bool × (List Int) × Jp × Int)) (k0 : Int) (p0 : SPoints) (c0 : (List Int)) : (List Int) × Jp × Int → Option ((List Int) × Jp × Int ⊕ (Ex ((List Int) × Jp × Int) (Bool × (List Int) × Jp × Int))) := fun (x9, j10, c11) => (idx x9 k0).bind fun x15 => (idx p0.Box k0).bind fun x16 => cond (decide (x15 < x16)) ((chk (j10 = Jp.go)).bind fun _ => (rec p0 (IntKind.i64.wrap (k0 + 1)) x9 c0 c11).bind fun ((o17, o18, o19, o20) : (Bool × (List Int) × Jp × Int)) => (chk (List.length x9 = List.length o18)).bind fun _ => cond (!o17) (some (.inr (.ret (false, o18, o19, o20)))) ((idx o18 k0).bind fun x22 => some (.inl (List.set o18 (Int.toNat k0) (IntKind.i64.wrap (x22 + 1)), o19, o20)))) (some (.inr (.brk (x9, j10, c11))))
def points_walk_2_body (fu : Nat) (rec : SPoints → Int → (List Int) → (List Int) → Int → Option (Bool × (List Int) × Jp × Int)) (p0 : SPoints) (k0 : Int) (l0 : (List Int)) (c0 : (List Int)) (c00 : Int) : Option (Bool × (List Int) × Jp × Int) := (F.points_hopeless fu p0 l0 k0).bind fun r1 => cond r1 (some (true, l0, Jp.go, c00)) (cond (k0 == (List.length p0.Box : Int)) ((F.slices_Clone fu l0).bind fun r3 => (F.points_Ahead_y1 fu r3 c0 c00).bind fun ((o4, o5) : (Int × Jp)) => some (Jp.isGo o5, l0, o5, o4)) ((idx l0 k0).bind fun x8 => bindE id (loopF (points_walk_2_l1 fu rec k0 p0 c0) fu (List.set l0 (Int.toNat k0) 0, Jp.go, c00)) fun ((l12, j13, c14) : (List Int) × Jp × Int) => some (true, l12, j13, c14)))
def points_walk_2 : Nat → SPoints → Int → (List Int) → (List Int) → Int → Option (Bool × (List Int) × Jp × Int)
  | 0, _, _, _, _, _ => none
  | fu + 1, p0, k0, l0, c0, c00 => points_walk_2_body fu (points_walk_2 fu) p0 k0 l0 c0 c00

def points_All_1_2 (fu : Nat) (a0 : SPoints) (c0 : (List Int)) (c00 : Int) : Option (Jp × Int) := (F.points_Wrong fu a0).bind fun r1 => cond (r1 == 0) ((chk (0 ≤ (List.length a0.Box : Int) ∧ (8 : Int) * (List.length a0.Box : Int) ≤ 281474976710656 ∧ (List.length a0.Box : Int) ≤ 9223372036854775807)).bind fun _ => (F.points_walk_2 fu a0 0 (List.replicate (Int.toNat (List.length a0.Box : Int)) (0 : Int)) c0 c00).bind fun ((o3, o4, o5, o6) : (Bool × (List Int) × Jp × Int)) => (chk (List.length (List.replicate (Int.toNat (List.length a0.Box : Int)) (0 : Int)) = List.length o4)).bind fun _ => some (o5, o6)) (some (Jp.go, c00))

def points_Ahead (fu : Nat) (p0 : SPoints) (x0 : (List Int)) : Option (Int × Int) := (F.points_Wrong fu p0).bind fun r1 => cond (r1 != 0) (some (0, r1)) (cond ((List.length x0 : Int) != (List.length p0.Box : Int)) (some (0, 6)) ((F.points_inside fu p0 x0).bind fun r3 => cond (!r3) (some (0, 9)) ((F.points_All fu p0).bind fun r5 => (F.points_All_1_2 fu r5 x0 0).bind fun ((o7, o8) : (Jp × Int)) => (chk (Jp.isRt o7 = false)).bind fun _ => some (o8, 0))))

def adjointref9_same_l1 (fu : Nat) (a0 : (List Int)) (b0 : (List Int)) : Int → Option (Int ⊕ (Ex Unit Bool)) := fun i1 => cond (decide (i1 < (List.length a0 : Int))) ((idx a0 i1).bind fun x2 => (idx b0 i1).bind fun x3 => cond (x2 != x3) (some (.inr (.ret false))) (some (.inl (IntKind.i64.wrap (i1 + 1))))) (some (.inr (.brk ())))
def adjointref9_same (fu : Nat) (a0 : (List Int)) (b0 : (List Int)) : Option Bool := bindE id (loopF (adjointref9_same_l1 fu a0 b0) fu 0) fun (_ : Unit) => some true

def adjointref9_Ahead_l1 (fu : Nat) (r3 : (List (List Int))) (x0 : (List Int)) : Int → Option (Int ⊕ (Ex Unit (Int × Int))) := fun i5 => cond (decide (i5 < (List.length r3 : Int))) ((idx r3 i5).bind fun x6 => (F.adjointref9_same fu x0 x6).bind fun r7 => cond r7 (some (.inr (.ret (i5, 0)))) (some (.inl (IntKind.i64.wrap (i5 + 1))))) (some (.inr (.brk ())))
def adjointref9_Ahead (fu : Nat) (p0 : SPoints) (x0 : (List Int)) : Option (Int × Int) := (F.adjointref9_Wrong fu p0).bind fun r1 => cond (r1 != 0) (some (0, r1)) (cond ((List.length x0 : Int) != (List.length p0.Box : Int)) (some (0, 6)) ((F.adjointref9_All fu p0).bind fun r3 => bindE id (loopF (adjointref9_Ahead_l1 fu r3 x0) fu 0) fun (_ : Unit) => some (0, 9)))

def adjointlaw9_PointsOrders (fu : Nat) (p0 : SPoints) (n0 : Int) (x0 : (List Int)) : Option Bool := (F.points_Nth fu p0 n0).bind fun r1 => (F.adjointref9_Nth fu p0 n0).bind fun r3 => (F.adjointref2_SameList fu r1.1 r3.1).bind fun r5 => (cond (!r5) (some true) (some (r1.2 != r3.2))).bind fun (i6 : Bool) => cond i6 (some false) ((F.points_Ahead fu p0 x0).bind fun r8 => (F.adjointref9_Ahead fu p0 x0).bind fun r10 => (cond (r8.1 == r10.1) (some (r8.2 == r10.2)) (some false)).bind fun (i12 : Bool) => some i12)

def points_Count_y1 (fu : Nat) (a0 : (List Int)) (c0 : Int) : Option Int := some (IntKind.i64.wrap (c0 + 1))

def points_walk_3_l1 (fu : Nat) (rec : SPoints → Int → (List Int) → Int → Option (Bool × (List Int) × Int)) (k0 : Int) (p0 : SPoints) : (List Int) × Int → Option ((List Int) × Int ⊕ (Ex ((List Int) × Int) (Bool × (List Int) × Int))) := fun (x7, c8) => (idx x7 k0).bind fun x11 => (idx p0.Box k0).bind fun x12 => cond (decide (x11 < x12)) ((rec p0 (IntKind.i64.wrap (k0 + 1)) x7 c8).bind fun ((o13, o14, o15) : (Bool × (List Int) × Int)) => (chk (List.length x7 = List.length o14)).bind fun _ => cond (!o13) (some (.inr (.ret (false, o14, o15)))) ((idx o14 k0).bind fun x17 => some (.inl (List.set o14 (Int.toNat k0) (IntKind.i64.wrap (x17 + 1)), o15)))) (some (.inr (.brk (x7, c8))))
def points_walk_3_body (fu : Nat) (rec : SPoints → Int → (List Int) → Int → Option (Bool × (List Int) × Int)) (p0 : SPoints) (k0 : Int) (l0 : (List Int)) (c0 : Int) : Option (Bool × (List Int) × Int) := (F.points_hopeless fu p0 l0 k0).bind fun r1 => cond r1 (some (true, l0, c0)) (cond (k0 == (List.length p0.Box : Int)) ((F.slices_Clone fu l0).bind fun r3 => (F.points_Count_y1 fu r3 c0).bind fun r4 => some (true, l0, r4)) ((idx l0 k0).bind fun x6 => bindE id (loopF (points_walk_3_l1 fu rec k0 p0) fu (List.set l0 (Int.toNat k0) 0, c0)) fun ((l9, c10) : (List Int) × Int) => some (true, l9, c10)))
def points_walk_3 : Nat → SPoints → Int → (List Int) → Int → Option (Bool × (List Int) × Int)
  | 0, _, _, _, _ => none
  | fu + 1, p0, k0, l0, c0 => points_walk_3_body fu (points_walk_3 fu) p0 k0 l0 c0

def points_All_1_3 (fu : Nat) (a0 : SPoints) (c0 : Int) : Option Int := (F.points_Wrong fu a0).bind fun r1 => cond (r1 == 0) ((chk (0 ≤ (List.length a0.Box : Int) ∧ (8 : Int) * (List.length a0.Box : Int) ≤ 281474976710656 ∧ (List.length a0.Box : Int) ≤ 9223372036854775807)).bind fun _ => (F.points_walk_3 fu a0 0 (List.replicate (Int.toNat (List.length a0.Box : Int)) (0 : Int)) c0).bind fun ((o3, o4, o5) : (Bool × (List Int) × Int)) => (chk (List.length (List.replicate (Int.toNat (List.length a0.Box : Int)) (0 : Int)) = List.length o4)).bind fun _ => some o5) (some c0)

def points_Count (fu : Nat) (p0 : SPoints) : Option (Int × Int) := (F.points_Wrong fu p0).bind fun r1 => cond (r1 != 0) (some (0, r1)) ((F.points_All fu p0).bind fun r3 => (F.points_All_1_3 fu r3 0).bind fun o5 => some (o5, 0))

def adjointlaw9_PointsBack (fu : Nat) (p0 : SPoints) (n0 : Int) (x0 : (List Int)) : Option Bool := (F.points_Count fu p0).bind fun r1 => cond (r1.2 != 0) (some true) ((F.points_Nth fu p0 n0).bind fun r3 => (cond (decide (n0 ≥ 0)) (some (!((r3.2 == 0) == (decide (n0 < r1.1))))) (some (!((r3.2 == 0) == false)))).bind fun (i5 : Bool) => cond i5 (some false) (bindE id (cond (r3.2 == 0) ((F.points_Ahead fu p0 r3.1).bind fun r6 => (cond (r6.2 != 0) (some true) (some (r6.1 != n0))).bind fun (i8 : Bool) => cond i8 (some (.ret false)) (some (.brk ()))) (some (.brk ()))) fun (_ : Unit) => (F.points_Ahead fu p0 x0).bind fun r9 => cond (r9.2 != 0) (some true) ((F.points_Nth fu p0 r9.1).bind fun r11 => (cond (r11.2 == 0) ((F.adjointref2_SameList fu r11.1 x0).bind fun r13 => some r13) (some false)).bind fun (i14 : Bool) => some i14)))

end
end F
end Go.Proofs.Ytllnemgkfdgljaa
