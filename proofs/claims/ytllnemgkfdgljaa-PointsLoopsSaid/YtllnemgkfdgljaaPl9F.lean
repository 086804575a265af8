/-
  The functions, as Lean functions over data.
-/
import Derived.Test.YtllnemgkfdgljaaPl9S
set_option maxRecDepth 20000
set_option linter.unusedVariables false
set_option linter.unusedSectionVars false
set_option linter.unusedSimpArgs false
namespace Go.DN
open Go.AM
noncomputable section
namespace F
def points_Row_1 (fu : Nat) (n1 : Int) : Option (Bool) :=
 (cond (decide (n1 < (-1048576))) (some true) (some (decide (n1 > 1048576)))).bind fun (v2 : Bool) =>
 some v2
def slices_IndexFunc_l1 (fu : Nat) (s1 : List Int) : Int → Option (Int ⊕ (Ex Unit Int)) := fun v2 =>
 cond (decide (v2 < (s1.length : Int)))
  ((idx s1 v2).bind fun x3 =>
   (points_Row_1 fu x3).bind fun (r4 : Bool) =>
   cond r4
    (some (.inr (.ret v2)))
    (some (.inl (IntKind.wrap .i64 (v2 + 1)))))
  (some (.inr (.brk ())))
def slices_IndexFunc (fu : Nat) (s1 : List Int) : Option (Int) :=
 bindE (fun r => r) (loopF (slices_IndexFunc_l1 fu s1) fu 0 : Option (Ex Unit Int)) fun (_ : Unit) =>
 some (-1)
def slices_ContainsFunc (fu : Nat) (s1 : List Int) : Option (Bool) :=
 (slices_IndexFunc fu s1).bind fun (r2 : Int) =>
 some (decide (r2 ≥ 0))
def points_Row (fu : Nat) (r1 : SRow) (vars2 : Int) : Option (Int) :=
 cond ((r1.Coef.length : Int) != vars2)
  (some 6)
  (((points_Row_1 fu r1.Const).bind fun (r3 : Bool) =>
    cond r3 (some true) ((slices_ContainsFunc fu r1.Coef).bind fun (r4 : Bool) =>
    some r4)).bind fun (v5 : Bool) =>
   cond v5
    (some 4)
    (some 0))
def points_Wrong_l1 (fu : Nat) (p1 : SPoints) : Int → Option (Int ⊕ (Ex Unit Int)) := fun v2 =>
 cond (decide (v2 < (p1.Box.length : Int)))
  ((idx p1.Box v2).bind fun x3 =>
   (cond (decide (x3 < 0)) (some true) (some (decide (x3 > 4096)))).bind fun (v4 : Bool) =>
   cond v4
    (some (.inr (.ret 4)))
    (some (.inl (IntKind.wrap .i64 (v2 + 1)))))
  (some (.inr (.brk ())))
def points_Wrong_l2 (fu : Nat) (p1 : SPoints) : Int × Int → Option ((Int × Int) ⊕ Int) := fun (n5, v6) =>
 cond (decide (v6 < (p1.Box.length : Int)))
  ((idx p1.Box v6).bind fun x7 =>
   some (.inl (IntKind.wrap .i64 (n5 * x7), IntKind.wrap .i64 (v6 + 1))))
  (some (.inr n5))
def points_Wrong_l3 (fu : Nat) (p1 : SPoints) : Int → Option (Int ⊕ (Ex Unit Int)) := fun v9 =>
 cond (decide (v9 < (p1.Rows.length : Int)))
  ((idx p1.Rows v9).bind fun x10 =>
   (points_Row fu x10 (p1.Box.length : Int)).bind fun (r11 : Int) =>
   cond (r11 != 0)
    (some (.inr (.ret r11)))
    (some (.inl (IntKind.wrap .i64 (v9 + 1)))))
  (some (.inr (.brk ())))
def points_Wrong (fu : Nat) (p1 : SPoints) : Option (Int) :=
 cond (decide ((p1.Box.length : Int) > 4))
  (some 3)
  (bindE (fun r => r) (loopF (points_Wrong_l1 fu p1) fu 0 : Option (Ex Unit Int)) fun (_ : Unit) =>
   (loopF (points_Wrong_l2 fu p1) fu (1, 0)).bind fun (n8 : Int) =>
   cond (decide (n8 > 4096))
    (some 5)
    (cond (decide ((p1.Rows.length : Int) > 8))
     (some 2)
     (bindE (fun r => r) (loopF (points_Wrong_l3 fu p1) fu 0 : Option (Ex Unit Int)) fun (_ : Unit) =>
      some 0)))
def slices_Backward (fu : Nat) (s1 : List Int) : Option (List Int) :=
 some s1
def points_last_y (fu : Nat) (v1 : Int) (v2 : Int) (m3 : Int) : Option (Int × Int) :=
 cond (v2 != 0)
  (some (2, v1))
  (some (0, m3))
def slices_Backward_1_l1 (fu : Nat) (m2 : List Int) : Int × Int × Int → Option ((Int × Int × Int) ⊕ (Ex (Int × Int) (Int × (List Int) × Int))) := fun (i4, m5, m6) =>
 cond (decide (i4 ≥ 0))
  ((idx m2 i4).bind fun x7 =>
   (chk (m5 = 0)).bind fun _ =>
   (points_last_y fu i4 x7 m6).bind fun ((r8, r9) : Int × Int) =>
   cond (r8 == 0)
    (cond (!true)
     (some (.inr (.ret (0, m2, r9))))
     (some (.inl (IntKind.wrap .i64 (i4 - 1), 0, r9))))
    (cond (!false)
     (some (.inr (.ret (r8, m2, r9))))
     (some (.inl (IntKind.wrap .i64 (i4 - 1), r8, r9)))))
  (some (.inr (.brk (m5, m6))))
def slices_Backward_1 (fu : Nat) (m1 : Int) (m2 : List Int) (m3 : Int) : Option (Int × (List Int) × Int) :=
 bindE (fun r => r) (loopF (slices_Backward_1_l1 fu m2) fu (IntKind.wrap .i64 ((m2.length : Int) - 1), m1, m3) : Option (Ex (Int × Int) (Int × (List Int) × Int))) fun ((m10, m11) : Int × Int) =>
 some (m10, m2, m11)
def points_last (fu : Nat) (r1 : SRow) : Option (Int) :=
 (slices_Backward fu r1.Coef).bind fun (r2 : List Int) =>
 (slices_Backward_1 fu 0 r2 0).bind fun ((r3, r4, r5) : Int × (List Int) × Int) =>
 cond (r3 == 0)
  (some (-1))
  (cond (r3 == 1)
   (some (-1))
   (some r5))
def slices_Clone (fu : Nat) (s1 : List Int) : Option (List Int) :=
 nilF (s1.length : Int) (some ([] : List Int)) ((chk (([] : List Int).length + s1.length ≤ maxLen ∧ (([] : List Int).length + s1.length) * 8 ≤ 140737488355328)).bind fun _ =>
 some (([] : List Int) ++ s1))
def points_Loops_l1 (fu : Nat) (p1 : SPoints) : Int × (List SLoop) → Option ((Int × (List SLoop)) ⊕ (List SLoop)) := fun (v3, m4) =>
 cond (decide (v3 < (p1.Box.length : Int)))
  ((idx p1.Box v3).bind fun x5 =>
   ((chk ((0 : Int) ≤ v3 ∧ v3 < (m4.length : Int))).bind fun _ =>
    amb ((m4[v3.toNat]?).bind fun x6 =>
    (chk ((0 : Int) ≤ v3 ∧ v3 ≤ v3 ∧ ((8 : Nat) : Int) * v3 ≤ 281474976710656 ∧ v3 ≤ 9223372036854775807)).bind fun _ =>
    (chk (x6.Lows.length + [(⟨(⟨List.replicate (Int.toNat v3) (0 : Int), 0⟩ : SRow), 1⟩ : SBound)].length ≤ maxLen ∧ (x6.Lows.length + [(⟨(⟨List.replicate (Int.toNat v3) (0 : Int), 0⟩ : SRow), 1⟩ : SBound)].length) * 40 ≤ 140737488355328)).bind fun _ =>
    (chk ((0 : Int) ≤ v3 ∧ v3 < (m4.length : Int))).bind fun _ =>
    (chk (v3.toNat * 2 + 0 = v3.toNat * 2 + 0)).bind fun _ =>
    (m4[v3.toNat]?).bind fun x7 =>
    some (m4.set v3.toNat (⟨x6.Lows ++ [(⟨(⟨List.replicate (Int.toNat v3) (0 : Int), 0⟩ : SRow), 1⟩ : SBound)], x7.Highs⟩ : SLoop))) ((chk ((0 : Int) ≤ v3 ∧ v3 ≤ v3 ∧ ((8 : Nat) : Int) * v3 ≤ 281474976710656 ∧ v3 ≤ 9223372036854775807)).bind fun _ =>
    amb2 ((m4[v3.toNat]?).bind fun x6 =>
    (chk (x6.Lows.length + [(⟨(⟨List.replicate (Int.toNat v3) (0 : Int), 0⟩ : SRow), 1⟩ : SBound)].length ≤ maxLen ∧ (x6.Lows.length + [(⟨(⟨List.replicate (Int.toNat v3) (0 : Int), 0⟩ : SRow), 1⟩ : SBound)].length) * 40 ≤ 140737488355328)).bind fun _ =>
    (chk ((0 : Int) ≤ v3 ∧ v3 < (m4.length : Int))).bind fun _ =>
    (chk (v3.toNat * 2 + 0 = v3.toNat * 2 + 0)).bind fun _ =>
    (m4[v3.toNat]?).bind fun x7 =>
    some (m4.set v3.toNat (⟨x6.Lows ++ [(⟨(⟨List.replicate (Int.toNat v3) (0 : Int), 0⟩ : SRow), 1⟩ : SBound)], x7.Highs⟩ : SLoop))))).bind fun (m8 : List SLoop) =>
   ((chk ((0 : Int) ≤ v3 ∧ v3 < (m8.length : Int))).bind fun _ =>
    amb ((m8[v3.toNat]?).bind fun x9 =>
    (chk ((0 : Int) ≤ v3 ∧ v3 ≤ v3 ∧ ((8 : Nat) : Int) * v3 ≤ 281474976710656 ∧ v3 ≤ 9223372036854775807)).bind fun _ =>
    (chk (x9.Highs.length + [(⟨(⟨List.replicate (Int.toNat v3) (0 : Int), IntKind.wrap .i64 (x5 - 1)⟩ : SRow), 1⟩ : SBound)].length ≤ maxLen ∧ (x9.Highs.length + [(⟨(⟨List.replicate (Int.toNat v3) (0 : Int), IntKind.wrap .i64 (x5 - 1)⟩ : SRow), 1⟩ : SBound)].length) * 40 ≤ 140737488355328)).bind fun _ =>
    (chk ((0 : Int) ≤ v3 ∧ v3 < (m8.length : Int))).bind fun _ =>
    (chk (v3.toNat * 2 + 1 = v3.toNat * 2 + 1)).bind fun _ =>
    (m8[v3.toNat]?).bind fun x10 =>
    some (m8.set v3.toNat (⟨x10.Lows, x9.Highs ++ [(⟨(⟨List.replicate (Int.toNat v3) (0 : Int), IntKind.wrap .i64 (x5 - 1)⟩ : SRow), 1⟩ : SBound)]⟩ : SLoop))) ((chk ((0 : Int) ≤ v3 ∧ v3 ≤ v3 ∧ ((8 : Nat) : Int) * v3 ≤ 281474976710656 ∧ v3 ≤ 9223372036854775807)).bind fun _ =>
    amb2 ((m8[v3.toNat]?).bind fun x9 =>
    (chk (x9.Highs.length + [(⟨(⟨List.replicate (Int.toNat v3) (0 : Int), IntKind.wrap .i64 (x5 - 1)⟩ : SRow), 1⟩ : SBound)].length ≤ maxLen ∧ (x9.Highs.length + [(⟨(⟨List.replicate (Int.toNat v3) (0 : Int), IntKind.wrap .i64 (x5 - 1)⟩ : SRow), 1⟩ : SBound)].length) * 40 ≤ 140737488355328)).bind fun _ =>
    (chk ((0 : Int) ≤ v3 ∧ v3 < (m8.length : Int))).bind fun _ =>
    (chk (v3.toNat * 2 + 1 = v3.toNat * 2 + 1)).bind fun _ =>
    (m8[v3.toNat]?).bind fun x10 =>
    some (m8.set v3.toNat (⟨x10.Lows, x9.Highs ++ [(⟨(⟨List.replicate (Int.toNat v3) (0 : Int), IntKind.wrap .i64 (x5 - 1)⟩ : SRow), 1⟩ : SBound)]⟩ : SLoop))))).bind fun (m11 : List SLoop) =>
   some (.inl (IntKind.wrap .i64 (v3 + 1), m11)))
  (some (.inr m4))
def points_Loops_l2 (fu : Nat) (m25 : List Int) : Int × (List Int) × Int × Int → Option ((Int × (List Int) × Int × Int) ⊕ ((List Int) × Int × Int)) := fun (v30, m31, m32, m33) =>
 cond (decide (v30 < (m25.length : Int)))
  ((idx m31 v30).bind fun x34 =>
   (idx m31 v30).bind fun x35 =>
   some (.inl (IntKind.wrap .i64 (v30 + 1), m31.set v30.toNat (IntKind.wrap .i64 (0 - x34)), m32, m33)))
  (some (.inr (m31, m32, m33)))
def points_Loops_l3 (fu : Nat) (p1 : SPoints) : Int × (List SLoop) → Option ((Int × (List SLoop)) ⊕ (List SLoop)) := fun (v13, m14) =>
 cond (decide (v13 < (p1.Rows.length : Int)))
  (((idx p1.Rows v13).bind fun x15 =>
    (points_last fu x15).bind fun (r16 : Int) =>
    cond (decide (r16 < 0))
     ((cond (decide (x15.Const < 0)) (some (decide ((m14.length : Int) > 0))) (some false)).bind fun (v17 : Bool) =>
     (cond v17
       ((chk ((0 : Int) ≤ 0 ∧ 0 < (m14.length : Int))).bind fun _ =>
        (m14[(0 : Int).toNat]?).bind fun x18 =>
        (chk (x18.Highs.length + [(⟨(⟨([] : List Int), (-1)⟩ : SRow), 1⟩ : SBound)].length ≤ maxLen ∧ (x18.Highs.length + [(⟨(⟨([] : List Int), (-1)⟩ : SRow), 1⟩ : SBound)].length) * 40 ≤ 140737488355328)).bind fun _ =>
        (chk ((0 : Int) ≤ 0 ∧ 0 < (m14.length : Int))).bind fun _ =>
        (chk (((0 : Int).toNat) * 2 + 1 = ((0 : Int).toNat) * 2 + 1)).bind fun _ =>
        (m14[(0 : Int).toNat]?).bind fun x19 =>
        some (m14.set ((0 : Int).toNat) (⟨x19.Lows, x18.Highs ++ [(⟨(⟨([] : List Int), (-1)⟩ : SRow), 1⟩ : SBound)]⟩ : SLoop)))
       (some m14)).bind fun (m20 : List SLoop) =>
     some m20)
     (((chk ((0 : Int) ≤ r16 ∧ r16 ≤ (x15.Coef.length : Int))).bind fun _ =>
      (idx x15.Coef r16).bind fun x21 =>
      amb2 ((slices_Clone fu (lpart x15.Coef 0 r16)).bind fun (r22 : List Int) =>
      some (x15.Const, x21, r22))).bind fun ((m23, m24, m25) : Int × Int × (List Int)) =>
     (idx x15.Coef r16).bind fun x26 =>
     cond (decide (x26 < 0))
      (((chk ((0 : Int) ≤ r16 ∧ r16 < (m14.length : Int))).bind fun _ =>
        amb2 ((m14[r16.toNat]?).bind fun x27 =>
        (chk (x27.Highs.length + [(⟨(⟨m25, m23⟩ : SRow), IntKind.wrap .i64 (0 - m24)⟩ : SBound)].length ≤ maxLen ∧ (x27.Highs.length + [(⟨(⟨m25, m23⟩ : SRow), IntKind.wrap .i64 (0 - m24)⟩ : SBound)].length) * 40 ≤ 140737488355328)).bind fun _ =>
        (chk ((0 : Int) ≤ r16 ∧ r16 < (m14.length : Int))).bind fun _ =>
        (chk (r16.toNat * 2 + 1 = r16.toNat * 2 + 1)).bind fun _ =>
        (m14[r16.toNat]?).bind fun x28 =>
        some (m14.set r16.toNat (⟨x28.Lows, x27.Highs ++ [(⟨(⟨m25, m23⟩ : SRow), IntKind.wrap .i64 (0 - m24)⟩ : SBound)]⟩ : SLoop)))).bind fun (m29 : List SLoop) =>
       some m29)
      ((loopF (points_Loops_l2 fu m25) fu (0, m25, m23, m24)).bind fun ((m36, m37, m38) : (List Int) × Int × Int) =>
       ((chk ((0 : Int) ≤ r16 ∧ r16 < (m14.length : Int))).bind fun _ =>
        amb2 ((m14[r16.toNat]?).bind fun x39 =>
        (chk (x39.Lows.length + [(⟨(⟨m36, IntKind.wrap .i64 (0 - m37)⟩ : SRow), m38⟩ : SBound)].length ≤ maxLen ∧ (x39.Lows.length + [(⟨(⟨m36, IntKind.wrap .i64 (0 - m37)⟩ : SRow), m38⟩ : SBound)].length) * 40 ≤ 140737488355328)).bind fun _ =>
        (chk ((0 : Int) ≤ r16 ∧ r16 < (m14.length : Int))).bind fun _ =>
        (chk (r16.toNat * 2 + 0 = r16.toNat * 2 + 0)).bind fun _ =>
        (m14[r16.toNat]?).bind fun x40 =>
        some (m14.set r16.toNat (⟨x39.Lows ++ [(⟨(⟨m36, IntKind.wrap .i64 (0 - m37)⟩ : SRow), m38⟩ : SBound)], x40.Highs⟩ : SLoop)))).bind fun (m41 : List SLoop) =>
       some m41))).bind fun (m42 : List SLoop) =>
   some (.inl (IntKind.wrap .i64 (v13 + 1), m42)))
  (some (.inr m14))
def points_Loops (fu : Nat) (p1 : SPoints) : Option ((List SLoop) × Int) :=
 (points_Wrong fu p1).bind fun (r2 : Int) =>
 cond (r2 != 0)
  (some (([] : List SLoop), r2))
  ((chk ((0 : Int) ≤ (p1.Box.length : Int) ∧ (p1.Box.length : Int) ≤ (p1.Box.length : Int) ∧ ((48 : Nat) : Int) * (p1.Box.length : Int) ≤ 281474976710656 ∧ (p1.Box.length : Int) ≤ 9223372036854775807)).bind fun _ =>
   (loopF (points_Loops_l1 fu p1) fu (0, List.replicate (Int.toNat (p1.Box.length : Int)) (⟨([] : List SBound), ([] : List SBound)⟩ : SLoop))).bind fun (m12 : List SLoop) =>
   (loopF (points_Loops_l3 fu p1) fu (0, m12)).bind fun (m43 : List SLoop) =>
   some (m43, 0))
def adjointref9_Row_l1 (fu : Nat) (r1 : SRow) : Int → Option (Int ⊕ (Ex Unit Int)) := fun v3 =>
 cond (decide (v3 < (([r1.Const] ++ r1.Coef).length : Int)))
  ((idx ([r1.Const] ++ r1.Coef) v3).bind fun x4 =>
   (cond (decide (x4 > 1048576)) (some true) (some (decide (x4 < (-1048576))))).bind fun (v5 : Bool) =>
   cond v5
    (some (.inr (.ret 4)))
    (some (.inl (IntKind.wrap .i64 (v3 + 1)))))
  (some (.inr (.brk ())))
def adjointref9_Row (fu : Nat) (r1 : SRow) (vars2 : Int) : Option (Int) :=
 cond ((r1.Coef.length : Int) != vars2)
  (some 6)
  ((chk ([r1.Const].length + r1.Coef.length ≤ maxLen ∧ ([r1.Const].length + r1.Coef.length) * 8 ≤ 140737488355328)).bind fun _ =>
   bindE (fun r => r) (loopF (adjointref9_Row_l1 fu r1) fu 0 : Option (Ex Unit Int)) fun (_ : Unit) =>
   some 0)
def adjointref9_Wrong_l1 (fu : Nat) (p1 : SPoints) : Int × Int → Option ((Int × Int) ⊕ (Ex Int Int)) := fun (n2, v3) =>
 cond (decide (v3 < (p1.Box.length : Int)))
  ((idx p1.Box v3).bind fun x4 =>
   (cond (decide (x4 < 0)) (some true) (some (decide (x4 > 4096)))).bind fun (v5 : Bool) =>
   cond v5
    (some (.inr (.ret 4)))
    (some (.inl (IntKind.wrap .i64 (n2 * x4), IntKind.wrap .i64 (v3 + 1)))))
  (some (.inr (.brk n2)))
def adjointref9_Wrong_l2 (fu : Nat) (p1 : SPoints) : Int → Option (Int ⊕ (Ex Unit Int)) := fun v7 =>
 cond (decide (v7 < (p1.Rows.length : Int)))
  ((idx p1.Rows v7).bind fun x8 =>
   (adjointref9_Row fu x8 (p1.Box.length : Int)).bind fun (r9 : Int) =>
   cond (r9 != 0)
    (some (.inr (.ret r9)))
    (some (.inl (IntKind.wrap .i64 (v7 + 1)))))
  (some (.inr (.brk ())))
def adjointref9_Wrong (fu : Nat) (p1 : SPoints) : Option (Int) :=
 cond (decide ((p1.Box.length : Int) > 4))
  (some 3)
  (bindE (fun r => r) (loopF (adjointref9_Wrong_l1 fu p1) fu (1, 0) : Option (Ex Int Int)) fun (n6 : Int) =>
   cond (decide (n6 > 4096))
    (some 5)
    (cond (decide ((p1.Rows.length : Int) > 8))
     (some 2)
     (bindE (fun r => r) (loopF (adjointref9_Wrong_l2 fu p1) fu 0 : Option (Ex Unit Int)) fun (_ : Unit) =>
      some 0)))
def adjointref9_Right_l1 (fu : Nat) (l1 : SLoop) (k2 : Int) : Int → Option (Int ⊕ (Ex Unit Bool)) := fun v3 =>
 cond (decide (v3 < (((([] : List SBound) ++ l1.Lows) ++ l1.Highs).length : Int)))
  ((idx ((([] : List SBound) ++ l1.Lows) ++ l1.Highs) v3).bind fun x4 =>
   (cond (decide (x4.Div < 1)) (some true) (cond (decide (x4.Div > 1048576)) (some true) ((adjointref9_Row fu x4.Row k2).bind fun (r5 : Int) =>
    some (r5 != 0)))).bind fun (v6 : Bool) =>
   cond v6
    (some (.inr (.ret false)))
    (some (.inl (IntKind.wrap .i64 (v3 + 1)))))
  (some (.inr (.brk ())))
def adjointref9_Right (fu : Nat) (l1 : SLoop) (k2 : Int) : Option (Bool) :=
 (chk (([] : List SBound).length + l1.Lows.length ≤ maxLen ∧ (([] : List SBound).length + l1.Lows.length) * 40 ≤ 140737488355328)).bind fun _ =>
 (chk ((([] : List SBound) ++ l1.Lows).length + l1.Highs.length ≤ maxLen ∧ ((([] : List SBound) ++ l1.Lows).length + l1.Highs.length) * 40 ≤ 140737488355328)).bind fun _ =>
 bindE (fun r => r) (loopF (adjointref9_Right_l1 fu l1 k2) fu 0 : Option (Ex Unit Bool)) fun (_ : Unit) =>
 (cond (decide ((l1.Lows.length : Int) > 0)) (some (decide ((l1.Highs.length : Int) > 0))) (some false)).bind fun (v7 : Bool) =>
 some v7
def adjointref9_At_l1 (fu : Nat) (r1 : SRow) (x2 : List Int) : Int × Int → Option ((Int × Int) ⊕ Int) := fun (n3, v4) =>
 cond (decide (v4 < (r1.Coef.length : Int)))
  ((idx r1.Coef v4).bind fun x5 =>
   (idx x2 v4).bind fun x6 =>
   some (.inl (IntKind.wrap .i64 (n3 + (IntKind.wrap .i64 (x5 * x6))), IntKind.wrap .i64 (v4 + 1))))
  (some (.inr n3))
def adjointref9_At (fu : Nat) (r1 : SRow) (x2 : List Int) : Option (Int) :=
 (loopF (adjointref9_At_l1 fu r1 x2) fu (r1.Const, 0)).bind fun (n7 : Int) =>
 some n7
def adjointref9_Down (fu : Nat) (n1 : Int) (d2 : Int) : Option (Int) :=
 (chk (d2 ≠ 0)).bind fun _ =>
 (chk (d2 ≠ 0)).bind fun _ =>
 (cond (decide ((Int.tmod n1 d2) < 0))
   (some (IntKind.wrap .i64 ((IntKind.wrap .i64 (Int.tdiv n1 d2)) - 1)))
   (some (IntKind.wrap .i64 (Int.tdiv n1 d2)))).bind fun (q3 : Int) =>
 some q3
def adjointref9_Run_l1 (self : (List SLoop) → (List Int) → (List Int) → Option ((List (List Int)) × Bool)) (fu : Nat) (x3 : List Int) (x4 : SLoop) : Int × Int → Option ((Int × Int) ⊕ Int) := fun (lo5, v6) =>
 cond (decide (v6 < (x4.Lows.length : Int)))
  ((idx x4.Lows v6).bind fun x7 =>
   (adjointref9_At fu x7.Row x3).bind fun (r8 : Int) =>
   (adjointref9_Down fu (IntKind.wrap .i64 (0 - r8)) x7.Div).bind fun (r9 : Int) =>
   (cond (v6 == 0) (some true) (some (decide ((IntKind.wrap .i64 (0 - r9)) > lo5)))).bind fun (v10 : Bool) =>
   (cond v10
     (some (IntKind.wrap .i64 (0 - r9)))
     (some lo5)).bind fun (lo11 : Int) =>
   some (.inl (lo11, IntKind.wrap .i64 (v6 + 1))))
  (some (.inr lo5))
def adjointref9_Run_l2 (self : (List SLoop) → (List Int) → (List Int) → Option ((List (List Int)) × Bool)) (fu : Nat) (x3 : List Int) (x4 : SLoop) : Int × Int → Option ((Int × Int) ⊕ Int) := fun (hi13, v14) =>
 cond (decide (v14 < (x4.Highs.length : Int)))
  ((idx x4.Highs v14).bind fun x15 =>
   (adjointref9_At fu x15.Row x3).bind fun (r16 : Int) =>
   (adjointref9_Down fu r16 x15.Div).bind fun (r17 : Int) =>
   (cond (v14 == 0) (some true) (some (decide (r17 < hi13)))).bind fun (v18 : Bool) =>
   (cond v18
     (some r17)
     (some hi13)).bind fun (hi19 : Int) =>
   some (.inl (hi19, IntKind.wrap .i64 (v14 + 1))))
  (some (.inr hi13))
def adjointref9_Run_l3 (self : (List SLoop) → (List Int) → (List Int) → Option ((List (List Int)) × Bool)) (fu : Nat) (loops1 : List SLoop) (box2 : List Int) (x3 : List Int) (hi20 : Int) : Int × (List (List Int)) → Option ((Int × (List (List Int))) ⊕ (Ex (List (List Int)) ((List (List Int)) × Bool))) := fun (n23, m24) =>
 cond (decide (n23 ≤ hi20))
  ((chk (([] : List Int).length + x3.length ≤ maxLen ∧ (([] : List Int).length + x3.length) * 8 ≤ 140737488355328)).bind fun _ =>
   (chk ((([] : List Int) ++ x3).length + [n23].length ≤ maxLen ∧ ((([] : List Int) ++ x3).length + [n23].length) * 8 ≤ 140737488355328)).bind fun _ =>
   (self loops1 box2 ((([] : List Int) ++ x3) ++ [n23])).bind fun ((r27, r28) : (List (List Int)) × Bool) =>
   cond (!r28)
    (some (.inr (.ret (([] : List (List Int)), false))))
    ((chk (m24.length + r27.length ≤ maxLen ∧ (m24.length + r27.length) * 24 ≤ 140737488355328)).bind fun _ =>
    some (.inl (IntKind.wrap .i64 (n23 + 1), m24 ++ r27))))
  (some (.inr (.brk m24)))
def adjointref9_Run_b (self : (List SLoop) → (List Int) → (List Int) → Option ((List (List Int)) × Bool)) (fu : Nat) (loops1 : List SLoop) (box2 : List Int) (x3 : List Int) : Option ((List (List Int)) × Bool) :=
 cond ((x3.length : Int) == (loops1.length : Int))
  (some ([x3], true))
  ((idx loops1 (x3.length : Int)).bind fun x4 =>
   (loopF (adjointref9_Run_l1 self fu x3 x4) fu (0, 0)).bind fun (lo12 : Int) =>
   (loopF (adjointref9_Run_l2 self fu x3 x4) fu (0, 0)).bind fun (hi20 : Int) =>
   (cond (decide (lo12 ≤ hi20)) (cond (decide (lo12 < 0)) (some true) ((idx box2 (x3.length : Int)).bind fun x21 =>
    some (decide (hi20 ≥ x21)))) (some false)).bind fun (v22 : Bool) =>
   cond v22
    (some (([] : List (List Int)), false))
    (bindE (fun r => r) (loopF (adjointref9_Run_l3 self fu loops1 box2 x3 hi20) fu (lo12, ([] : List (List Int))) : Option (Ex (List (List Int)) ((List (List Int)) × Bool))) fun (m29 : List (List Int)) =>
    some (m29, true)))
def adjointref9_Run : Nat → (List SLoop) → (List Int) → (List Int) → Option ((List (List Int)) × Bool)
 | 0 => fun _ _ _ => none
 | fu + 1 => adjointref9_Run_b (adjointref9_Run fu) (fu + 1)
def adjointref9_Box_l2 (self : (List Int) → Option (List (List Int))) (fu : Nat) (box1 : List Int) (x11 : List Int) : Int × (List (List Int)) → Option ((Int × (List (List Int))) ⊕ (List (List Int))) := fun (i12, m13) =>
 (idx box1 (IntKind.wrap .i64 ((box1.length : Int) - 1))).bind fun x14 =>
 cond (decide (i12 < x14))
  ((chk (([] : List Int).length + x11.length ≤ maxLen ∧ (([] : List Int).length + x11.length) * 8 ≤ 140737488355328)).bind fun _ =>
   (chk ((([] : List Int) ++ x11).length + [i12].length ≤ maxLen ∧ ((([] : List Int) ++ x11).length + [i12].length) * 8 ≤ 140737488355328)).bind fun _ =>
   (chk (m13.length + [(([] : List Int) ++ x11) ++ [i12]].length ≤ maxLen ∧ (m13.length + [(([] : List Int) ++ x11) ++ [i12]].length) * 24 ≤ 140737488355328)).bind fun _ =>
   some (.inl (IntKind.wrap .i64 (i12 + 1), m13 ++ [(([] : List Int) ++ x11) ++ [i12]])))
  (some (.inr m13))
def adjointref9_Box_l3 (self : (List Int) → Option (List (List Int))) (fu : Nat) (box1 : List Int) (r2 : List (List Int)) : Int × (List (List Int)) → Option ((Int × (List (List Int))) ⊕ (List (List Int))) := fun (v3, m4) =>
 cond (decide (v3 < (r2.length : Int)))
  ((idx r2 v3).bind fun x11 =>
   (loopF (adjointref9_Box_l2 self fu box1 x11) fu (0, m4)).bind fun (m15 : List (List Int)) =>
   some (.inl (IntKind.wrap .i64 (v3 + 1), m15)))
  (some (.inr m4))
def adjointref9_Box_b (self : (List Int) → Option (List (List Int))) (fu : Nat) (box1 : List Int) : Option (List (List Int)) :=
 cond ((box1.length : Int) == 0)
  (some [([] : List Int)])
  ((chk ((0 : Int) ≤ (IntKind.wrap .i64 ((box1.length : Int) - 1)) ∧ (IntKind.wrap .i64 ((box1.length : Int) - 1)) ≤ (box1.length : Int))).bind fun _ =>
   (self (lpart box1 0 (IntKind.wrap .i64 ((box1.length : Int) - 1)))).bind fun (r2 : List (List Int)) =>
   (loopF (adjointref9_Box_l3 self fu box1 r2) fu (0, ([] : List (List Int)))).bind fun (m16 : List (List Int)) =>
   some m16)
def adjointref9_Box : Nat → (List Int) → Option (List (List Int))
 | 0 => fun _ => none
 | fu + 1 => adjointref9_Box_b (adjointref9_Box fu) (fu + 1)
def adjointref9_All_l1 (fu : Nat) (p1 : SPoints) (x5 : List Int) : Bool × Int → Option ((Bool × Int) ⊕ Bool) := fun (ok6, v7) =>
 cond (decide (v7 < (p1.Rows.length : Int)))
  ((idx p1.Rows v7).bind fun x8 =>
   (cond ok6 ((adjointref9_At fu x8 x5).bind fun (r9 : Int) =>
    some (decide (r9 ≥ 0))) (some false)).bind fun (ok10 : Bool) =>
   some (.inl (ok10, IntKind.wrap .i64 (v7 + 1))))
  (some (.inr ok6))
def adjointref9_All_l2 (fu : Nat) (p1 : SPoints) (r2 : List (List Int)) : Int × (List (List Int)) → Option ((Int × (List (List Int))) ⊕ (List (List Int))) := fun (v3, m4) =>
 cond (decide (v3 < (r2.length : Int)))
  ((idx r2 v3).bind fun x5 =>
   (loopF (adjointref9_All_l1 fu p1 x5) fu (true, 0)).bind fun (ok11 : Bool) =>
   (cond ok11
     ((chk (m4.length + [x5].length ≤ maxLen ∧ (m4.length + [x5].length) * 24 ≤ 140737488355328)).bind fun _ =>
     some (m4 ++ [x5]))
     (some m4)).bind fun (m12 : List (List Int)) =>
   some (.inl (IntKind.wrap .i64 (v3 + 1), m12)))
  (some (.inr m4))
def adjointref9_All (fu : Nat) (p1 : SPoints) : Option (List (List Int)) :=
 (adjointref9_Box fu p1.Box).bind fun (r2 : List (List Int)) =>
 (loopF (adjointref9_All_l2 fu p1 r2) fu (0, ([] : List (List Int)))).bind fun (m13 : List (List Int)) =>
 some m13
def adjointref2_SameList_l1 (fu : Nat) (a1 : List Int) (b2 : List Int) : Int → Option (Int ⊕ (Ex Unit Bool)) := fun v3 =>
 cond (decide (v3 < (a1.length : Int)))
  ((idx a1 v3).bind fun x4 =>
   (idx b2 v3).bind fun x5 =>
   cond (x4 != x5)
    (some (.inr (.ret false)))
    (some (.inl (IntKind.wrap .i64 (v3 + 1)))))
  (some (.inr (.brk ())))
def adjointref2_SameList (fu : Nat) (a1 : List Int) (b2 : List Int) : Option (Bool) :=
 cond ((a1.length : Int) != (b2.length : Int))
  (some false)
  (bindE (fun r => r) (loopF (adjointref2_SameList_l1 fu a1 b2) fu 0 : Option (Ex Unit Bool)) fun (_ : Unit) =>
   some true)
def adjointlaw9_sameLists_l1 (fu : Nat) (a1 : List (List Int)) (b2 : List (List Int)) : Int → Option (Int ⊕ (Ex Unit Bool)) := fun v3 =>
 cond (decide (v3 < (a1.length : Int)))
  ((idx a1 v3).bind fun x4 =>
   (idx b2 v3).bind fun x5 =>
   (adjointref2_SameList fu x4 x5).bind fun (r6 : Bool) =>
   cond (!r6)
    (some (.inr (.ret false)))
    (some (.inl (IntKind.wrap .i64 (v3 + 1)))))
  (some (.inr (.brk ())))
def adjointlaw9_sameLists (fu : Nat) (a1 : List (List Int)) (b2 : List (List Int)) : Option (Bool) :=
 cond ((a1.length : Int) != (b2.length : Int))
  (some false)
  (bindE (fun r => r) (loopF (adjointlaw9_sameLists_l1 fu a1 b2) fu 0 : Option (Ex Unit Bool)) fun (_ : Unit) =>
   some true)
def adjointlaw9_PointsLoops_l1 (fu : Nat) (r2 : List SLoop) : Int → Option (Int ⊕ (Ex Unit Bool)) := fun v5 =>
 cond (decide (v5 < (r2.length : Int)))
  ((idx r2 v5).bind fun x6 =>
   (adjointref9_Right fu x6 v5).bind fun (r7 : Bool) =>
   cond (!r7)
    (some (.inr (.ret false)))
    (some (.inl (IntKind.wrap .i64 (v5 + 1)))))
  (some (.inr (.brk ())))
def adjointlaw9_PointsLoops (fu : Nat) (p1 : SPoints) : Option (Bool) :=
 (points_Loops fu p1).bind fun ((r2, r3) : (List SLoop) × Int) =>
 (adjointref9_Wrong fu p1).bind fun (r4 : Int) =>
 cond (r3 != r4)
  (some false)
  (cond (r3 != 0)
    (some ((r2.length : Int) == 0))
    (cond ((r2.length : Int) != (p1.Box.length : Int))
     (some false)
     (bindE (fun r => r) (loopF (adjointlaw9_PointsLoops_l1 fu r2) fu 0 : Option (Ex Unit Bool)) fun (_ : Unit) =>
      (adjointref9_Run fu r2 p1.Box ([] : List Int)).bind fun ((r8, r9) : (List (List Int)) × Bool) =>
      cond ((p1.Box.length : Int) == 0)
       (some true)
       ((cond r9 ((adjointref9_All fu p1).bind fun (r10 : List (List Int)) =>
        (adjointlaw9_sameLists fu r8 r10).bind fun (r11 : Bool) =>
        some r11) (some false)).bind fun (v12 : Bool) =>
       some v12))))
end F
end
end Go.DN
