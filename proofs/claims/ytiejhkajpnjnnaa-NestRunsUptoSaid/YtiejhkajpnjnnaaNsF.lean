/-
  The functions, as Lean functions over data.
-/
import Derived.Test.YtiejhkajpnjnnaaNsS
set_option maxRecDepth 20000
set_option linter.unusedVariables false
set_option linter.unusedSectionVars false
set_option linter.unusedSimpArgs false
namespace Go.DN
open Go.AM
noncomputable section
namespace F
def nest_Wrong_1 (fu : Nat) (s1 : Int) : Option (Bool) :=
 (cond (decide (s1 < 0)) (some true) (some (decide (s1 > 65536)))).bind fun (v2 : Bool) =>
 some v2
def slices_IndexFunc_l1 (fu : Nat) (s1 : List Int) : Int → Option (Int ⊕ (Ex Unit Int)) := fun v2 =>
 cond (decide (v2 < (s1.length : Int)))
  ((idx s1 v2).bind fun x3 =>
   (nest_Wrong_1 fu x3).bind fun (r4 : Bool) =>
   cond r4
    (some (.inr (.ret v2)))
    (some (.inl (IntKind.wrap .i64 (v2 + 1)))))
  (some (.inr (.brk ())))
def slices_IndexFunc (fu : Nat) (s1 : List Int) : Option (Int) :=
 bindE (fun r => r) (loopF (slices_IndexFunc_l1 fu s1) fu 0 : Option (Ex Unit Int)) fun (_ : Unit) =>
 some (-1)
def slices_ContainsFunc (fu : Nat) (s1 : List Int) : Option (Bool) :=
 (slices_IndexFunc fu s1).bind fun (r2 : Int) =>
 some (decide (r2 ≥ 0))
def points_Row_1 (fu : Nat) (n1 : Int) : Option (Bool) :=
 (cond (decide (n1 < (-1048576))) (some true) (some (decide (n1 > 1048576)))).bind fun (v2 : Bool) =>
 some v2
def slices_IndexFunc_2_l1 (fu : Nat) (s1 : List Int) : Int → Option (Int ⊕ (Ex Unit Int)) := fun v2 =>
 cond (decide (v2 < (s1.length : Int)))
  ((idx s1 v2).bind fun x3 =>
   (points_Row_1 fu x3).bind fun (r4 : Bool) =>
   cond r4
    (some (.inr (.ret v2)))
    (some (.inl (IntKind.wrap .i64 (v2 + 1)))))
  (some (.inr (.brk ())))
def slices_IndexFunc_2 (fu : Nat) (s1 : List Int) : Option (Int) :=
 bindE (fun r => r) (loopF (slices_IndexFunc_2_l1 fu s1) fu 0 : Option (Ex Unit Int)) fun (_ : Unit) =>
 some (-1)
def slices_ContainsFunc_2 (fu : Nat) (s1 : List Int) : Option (Bool) :=
 (slices_IndexFunc_2 fu s1).bind fun (r2 : Int) =>
 some (decide (r2 ≥ 0))
def points_Row (fu : Nat) (r1 : SRow) (vars2 : Int) : Option (Int) :=
 cond ((r1.Coef.length : Int) != vars2)
  (some 6)
  (((points_Row_1 fu r1.Const).bind fun (r3 : Bool) =>
    cond r3 (some true) ((slices_ContainsFunc_2 fu r1.Coef).bind fun (r4 : Bool) =>
    some r4)).bind fun (v5 : Bool) =>
   cond v5
    (some 4)
    (some 0))
def points_Wrong_l1 (fu : Nat) (p1 : SPoints) : Int → Option (Int ⊕ (Ex Unit Int)) := fun v2 =>
 cond (decide (v2 < (p1.Box.length : Int)))
  ((idx p1.Box v2).bind fun x3 =>
   (cond (decide (x3 < 0)) (some true) (some (decide (x3 > 4096)))).bind fun (v4 : Bool) =>
   cond v4
    (some (.inr (.ret 4)))
    (some (.inl (IntKind.wrap .i64 (v2 + 1)))))
  (some (.inr (.brk ())))
def points_Wrong_l2 (fu : Nat) (p1 : SPoints) : Int × Int → Option ((Int × Int) ⊕ Int) := fun (n5, v6) =>
 cond (decide (v6 < (p1.Box.length : Int)))
  ((idx p1.Box v6).bind fun x7 =>
   some (.inl (IntKind.wrap .i64 (n5 * x7), IntKind.wrap .i64 (v6 + 1))))
  (some (.inr n5))
def points_Wrong_l3 (fu : Nat) (p1 : SPoints) : Int → Option (Int ⊕ (Ex Unit Int)) := fun v9 =>
 cond (decide (v9 < (p1.Rows.length : Int)))
  ((idx p1.Rows v9).bind fun x10 =>
   (points_Row fu x10 (p1.Box.length : Int)).bind fun (r11 : Int) =>
   cond (r11 != 0)
    (some (.inr (.ret r11)))
    (some (.inl (IntKind.wrap .i64 (v9 + 1)))))
  (some (.inr (.brk ())))
def points_Wrong (fu : Nat) (p1 : SPoints) : Option (Int) :=
 cond (decide ((p1.Box.length : Int) > 4))
  (some 3)
  (bindE (fun r => r) (loopF (points_Wrong_l1 fu p1) fu 0 : Option (Ex Unit Int)) fun (_ : Unit) =>
   (loopF (points_Wrong_l2 fu p1) fu (1, 0)).bind fun (n8 : Int) =>
   cond (decide (n8 > 4096))
    (some 5)
    (cond (decide ((p1.Rows.length : Int) > 8))
     (some 2)
     (bindE (fun r => r) (loopF (points_Wrong_l3 fu p1) fu 0 : Option (Ex Unit Int)) fun (_ : Unit) =>
      some 0)))
def nest_gets (fu : Nat) (do1 : Int) : Option (Int) :=
 cond (do1 == 1)
  (some 0)
  ((cond (do1 == 2)
     (some (do1 == 2))
     (some (do1 == 9))).bind fun (v2 : Bool) =>
   cond v2
    (some 1)
    ((cond (do1 == 3)
      (some (do1 == 3))
      ((cond (do1 == 4)
         (some (do1 == 4))
         ((cond (do1 == 5)
           (some (do1 == 5))
           ((cond (do1 == 6)
              (some (do1 == 6))
              ((cond (do1 == 7)
                (some (do1 == 7))
                (some (do1 == 10))).bind fun (v3 : Bool) =>
              some v3)).bind fun (v4 : Bool) =>
            some v4)).bind fun (v5 : Bool) =>
         some v5)).bind fun (v6 : Bool) =>
       some v6)).bind fun (v7 : Bool) =>
    cond v7
     (some 2)
     (cond (do1 == 8)
       (some 3)
       (some (-1)))))
def nest_statement_l1 (fu : Nat) (n1 : SNest) (s2 : SStmt) : Int → Option (Int ⊕ (Ex Unit Int)) := fun v5 =>
 cond (decide (v5 < (([s2.Put] ++ s2.Get).length : Int)))
  ((idx ([s2.Put] ++ s2.Get) v5).bind fun x6 =>
   (cond (decide (x6.Array < 0)) (some true) (some (decide (x6.Array ≥ (n1.Sizes.length : Int))))).bind fun (v7 : Bool) =>
   cond v7
    (some (.inr (.ret 4)))
    ((points_Row fu x6.At (s2.Over.Box.length : Int)).bind fun (r8 : Int) =>
    cond (r8 != 0)
     (some (.inr (.ret r8)))
     (some (.inl (IntKind.wrap .i64 (v5 + 1))))))
  (some (.inr (.brk ())))
def nest_statement (fu : Nat) (n1 : SNest) (s2 : SStmt) : Option (Int) :=
 (points_Wrong fu s2.Over).bind fun (r3 : Int) =>
 cond (r3 != 0)
  (some r3)
  ((nest_gets fu s2.Do).bind fun (r4 : Int) =>
   cond (decide (r4 < 0))
    (some 1)
    (cond (r4 != (s2.Get.length : Int))
     (some 2)
     ((chk ([s2.Put].length + s2.Get.length ≤ maxLen ∧ ([s2.Put].length + s2.Get.length) * 40 ≤ 140737488355328)).bind fun _ =>
      bindE (fun r => r) (loopF (nest_statement_l1 fu n1 s2) fu 0 : Option (Ex Unit Int)) fun (_ : Unit) =>
      some 0)))
def nest_Wrong_l1 (fu : Nat) (n1 : SNest) : Int → Option (Int ⊕ (Ex Unit Int)) := fun v3 =>
 cond (decide (v3 < (n1.Stmts.length : Int)))
  ((idx n1.Stmts v3).bind fun x4 =>
   (nest_statement fu n1 (⟨(⟨x4.Over.Box, x4.Over.Rows⟩ : SPoints), x4.Do, x4.Value, (⟨x4.Put.Array, (⟨x4.Put.At.Coef, x4.Put.At.Const⟩ : SRow)⟩ : SAccess), x4.Get⟩ : SStmt)).bind fun (r5 : Int) =>
   cond (r5 != 0)
    (some (.inr (.ret r5)))
    (some (.inl (IntKind.wrap .i64 (v3 + 1)))))
  (some (.inr (.brk ())))
def nest_Wrong (fu : Nat) (n1 : SNest) : Option (Int) :=
 cond (decide ((n1.Stmts.length : Int) > 256))
  (some 2)
  ((slices_ContainsFunc fu n1.Sizes).bind fun (r2 : Bool) =>
   cond r2
    (some 4)
    (bindE (fun r => r) (loopF (nest_Wrong_l1 fu n1) fu 0 : Option (Ex Unit Int)) fun (_ : Unit) =>
    some 0))
def slices_Clone (fu : Nat) (s1 : List Int) : Option (List Int) :=
 nilF (s1.length : Int) (some ([] : List Int)) ((chk (([] : List Int).length + s1.length ≤ maxLen ∧ (([] : List Int).length + s1.length) * 8 ≤ 140737488355328)).bind fun _ =>
 some (([] : List Int) ++ s1))
def nest_Copied_l1 (fu : Nat) (n1 : SNest) (mem2 : List (List Int)) : Int × (List (List Int)) → Option ((Int × (List (List Int))) ⊕ (Ex (List (List Int)) (Int × (List (List Int))))) := fun (v3, m4) =>
 cond (decide (v3 < (mem2.length : Int)))
  ((idx mem2 v3).bind fun x5 =>
   (idx n1.Sizes v3).bind fun x6 =>
   cond ((x5.length : Int) != x6)
    (some (.inr (.ret (6, ([] : List (List Int))))))
    ((slices_Clone fu x5).bind fun (r7 : List Int) =>
    (chk ((0 : Int) ≤ v3 ∧ v3 < (m4.length : Int))).bind fun _ =>
    (chk (v3.toNat < m4.length)).bind fun _ =>
    some (.inl (IntKind.wrap .i64 (v3 + 1), m4.set v3.toNat r7))))
  (some (.inr (.brk m4)))
def nest_Copied (fu : Nat) (n1 : SNest) (mem2 : List (List Int)) : Option (Int × (List (List Int))) :=
 cond ((mem2.length : Int) != (n1.Sizes.length : Int))
  (some (2, ([] : List (List Int))))
  ((chk ((0 : Int) ≤ (mem2.length : Int) ∧ (mem2.length : Int) ≤ (mem2.length : Int) ∧ ((24 : Nat) : Int) * (mem2.length : Int) ≤ 281474976710656 ∧ (mem2.length : Int) ≤ 9223372036854775807)).bind fun _ =>
   (chk (allNil (List.replicate (Int.toNat (mem2.length : Int)) ([] : List Int)) = true)).bind fun _ =>
   bindE (fun r => r) (loopF (nest_Copied_l1 fu n1 mem2) fu (0, List.replicate (Int.toNat (mem2.length : Int)) ([] : List Int)) : Option (Ex (List (List Int)) (Int × (List (List Int))))) fun (m8 : List (List Int)) =>
   some (0, m8))
def points_All (fu : Nat) (p1 : SPoints) : Option ((List Int) × (List SRow)) :=
 some (p1.Box, p1.Rows)
def points_hopeless_l1 (fu : Nat) (p1 : SPoints) (x2 : List Int) (k3 : Int) (x5 : SRow) : Int × Int → Option ((Int × Int) ⊕ Int) := fun (n6, v7) =>
 cond (decide (v7 < (x5.Coef.length : Int)))
  ((idx x5.Coef v7).bind fun x8 =>
   (cond (decide (v7 < k3))
     ((idx x2 v7).bind fun x9 =>
     some (IntKind.wrap .i64 (n6 + (IntKind.wrap .i64 (x8 * x9)))))
     ((cond (decide (x8 > 0))
       ((idx p1.Box v7).bind fun x10 =>
        some (IntKind.wrap .i64 (n6 + (IntKind.wrap .i64 (x8 * (IntKind.wrap .i64 (x10 - 1)))))))
       (some n6)).bind fun (n11 : Int) =>
     some n11)).bind fun (n12 : Int) =>
   some (.inl (n12, IntKind.wrap .i64 (v7 + 1))))
  (some (.inr n6))
def points_hopeless_l2 (fu : Nat) (p1 : SPoints) (x2 : List Int) (k3 : Int) : Int → Option (Int ⊕ (Ex Unit Bool)) := fun v4 =>
 cond (decide (v4 < (p1.Rows.length : Int)))
  ((idx p1.Rows v4).bind fun x5 =>
   (loopF (points_hopeless_l1 fu p1 x2 k3 x5) fu (x5.Const, 0)).bind fun (n13 : Int) =>
   cond (decide (n13 < 0))
    (some (.inr (.ret true)))
    (some (.inl (IntKind.wrap .i64 (v4 + 1)))))
  (some (.inr (.brk ())))
def points_hopeless (fu : Nat) (p1 : SPoints) (x2 : List Int) (k3 : Int) : Option (Bool) :=
 bindE (fun r => r) (loopF (points_hopeless_l2 fu p1 x2 k3) fu 0 : Option (Ex Unit Bool)) fun (_ : Unit) =>
 some false
def slices_Clone_2 (fu : Nat) (s1 : List Int) : Option (List Int) :=
 nilF (s1.length : Int) (some ([] : List Int)) ((chk (([] : List Int).length + s1.length ≤ maxLen ∧ (([] : List Int).length + s1.length) * 8 ≤ 140737488355328)).bind fun _ =>
 some (([] : List Int) ++ s1))
def points_At_l1 (fu : Nat) (r1 : SRow) (x2 : List Int) : Int × Int → Option ((Int × Int) ⊕ Int) := fun (n3, v4) =>
 cond (decide (v4 < (r1.Coef.length : Int)))
  ((idx r1.Coef v4).bind fun x5 =>
   (idx x2 v4).bind fun x6 =>
   some (.inl (IntKind.wrap .i64 (n3 + (IntKind.wrap .i64 (x5 * x6))), IntKind.wrap .i64 (v4 + 1))))
  (some (.inr n3))
def points_At (fu : Nat) (r1 : SRow) (x2 : List Int) : Option (Int) :=
 (loopF (points_At_l1 fu r1 x2) fu (r1.Const, 0)).bind fun (n7 : Int) =>
 some n7
def nest_Memory_Place (fu : Nat) (a1 : SAccess) (x2 : List Int) (m3 : List (List Int)) : Option (Bool × Int × Int × (List (List Int))) :=
 (points_At fu a1.At x2).bind fun (r4 : Int) =>
 (cond (decide (r4 < 0)) (some true) ((chk ((0 : Int) ≤ a1.Array ∧ a1.Array < (m3.length : Int))).bind fun _ =>
  (m3[a1.Array.toNat]?).bind fun x5 =>
  some (decide (r4 ≥ ((List.length x5 : Nat) : Int))))).bind fun (v6 : Bool) =>
 cond v6
  (some (true, 0, 0, m3))
  ((chk ((0 : Int) ≤ a1.Array ∧ a1.Array < (m3.length : Int))).bind fun _ =>
   (m3[a1.Array.toNat]?).bind fun x7 =>
   (chk ((0 : Int) ≤ r4 ∧ r4 < ((List.length x7 : Nat) : Int))).bind fun _ =>
   some (false, ((a1.Array.toNat : Nat) : Int), ((r4.toNat : Nat) : Int), m3))
def nest_Memory_get (fu : Nat) (a1 : SAccess) (x2 : List Int) (m3 : List (List Int)) : Option (Int × (List (List Int))) :=
 (nest_Memory_Place fu a1 x2 m3).bind fun ((r4, r5, r6, r7) : Bool × Int × Int × (List (List Int))) =>
 bif Nat.beq (List.length r7) (List.length m3) then
 cond (!r4)
  ((chk (r4 = false)).bind fun _ =>
   (r7[(Int.toNat r5)]?).bind fun x8 =>
   (x8[(Int.toNat r6)]?).bind fun x9 =>
   some (x9, r7))
  (some (0, r7))
 else none
def nest_Memory_Do_l1 (fu : Nat) (s1 : SStmt) (x2 : List Int) : Int × (List (List Int)) × (List Int) → Option ((Int × (List (List Int)) × (List Int)) ⊕ ((List (List Int)) × (List Int))) := fun (v4, m5, m6) =>
 cond (decide (v4 < (s1.Get.length : Int)))
  ((idx s1.Get v4).bind fun x7 =>
   (nest_Memory_get fu x7 x2 m5).bind fun ((r8, r9) : Int × (List (List Int))) =>
   bif Nat.beq (List.length r9) (List.length m5) then
   (idx m6 v4).bind fun x10 =>
   some (.inl (IntKind.wrap .i64 (v4 + 1), r9, m6.set v4.toNat r8))
   else none)
  (some (.inr (m5, m6)))
def nest_Memory_Do (fu : Nat) (s1 : SStmt) (x2 : List Int) (m3 : List (List Int)) : Option (List (List Int)) :=
 (chk ((0 : Int) ≤ 3 ∧ 3 ≤ 3 ∧ ((8 : Nat) : Int) * 3 ≤ 281474976710656 ∧ 3 ≤ 9223372036854775807)).bind fun _ =>
 (loopF (nest_Memory_Do_l1 fu s1 x2) fu (0, m3, List.replicate (Int.toNat 3) (0 : Int))).bind fun ((m11, m12) : (List (List Int)) × (List Int)) =>
 (nest_Memory_Place fu s1.Put x2 m11).bind fun ((r13, r14, r15, r16) : Bool × Int × Int × (List (List Int))) =>
 bif Nat.beq (List.length r16) (List.length m11) then
 cond r13
  (some r16)
  ((cond (s1.Do == 1)
     ((chk (r13 = false)).bind fun _ =>
     (r16[(Int.toNat r14)]?).bind fun x17 =>
     (chk ((Int.toNat r15) < x17.length)).bind fun _ =>
     some (r16.set (Int.toNat r14) (x17.set (Int.toNat r15) s1.Value)))
     ((cond (s1.Do == 2)
       ((idx m12 0).bind fun x18 =>
        (chk (r13 = false)).bind fun _ =>
        (r16[(Int.toNat r14)]?).bind fun x19 =>
        (chk ((Int.toNat r15) < x19.length)).bind fun _ =>
        some (r16.set (Int.toNat r14) (x19.set (Int.toNat r15) x18)))
       ((cond (s1.Do == 3)
          ((idx m12 0).bind fun x20 =>
          (idx m12 1).bind fun x21 =>
          (chk (r13 = false)).bind fun _ =>
          (r16[(Int.toNat r14)]?).bind fun x22 =>
          (chk ((Int.toNat r15) < x22.length)).bind fun _ =>
          some (r16.set (Int.toNat r14) (x22.set (Int.toNat r15) (IntKind.wrap .i64 (x20 + x21)))))
          ((cond (s1.Do == 4)
            ((idx m12 0).bind fun x23 =>
             (idx m12 1).bind fun x24 =>
             (chk (r13 = false)).bind fun _ =>
             (r16[(Int.toNat r14)]?).bind fun x25 =>
             (chk ((Int.toNat r15) < x25.length)).bind fun _ =>
             some (r16.set (Int.toNat r14) (x25.set (Int.toNat r15) (IntKind.wrap .i64 (x23 - x24)))))
            ((cond (s1.Do == 5)
               ((idx m12 0).bind fun x26 =>
               (idx m12 1).bind fun x27 =>
               (chk (r13 = false)).bind fun _ =>
               (r16[(Int.toNat r14)]?).bind fun x28 =>
               (chk ((Int.toNat r15) < x28.length)).bind fun _ =>
               some (r16.set (Int.toNat r14) (x28.set (Int.toNat r15) (IntKind.wrap .i64 (x26 * x27)))))
               ((cond (s1.Do == 6)
                 ((idx m12 0).bind fun x29 =>
                  (idx m12 1).bind fun x30 =>
                  (chk (r13 = false)).bind fun _ =>
                  (r16[(Int.toNat r14)]?).bind fun x31 =>
                  (chk ((Int.toNat r15) < x31.length)).bind fun _ =>
                  some (r16.set (Int.toNat r14) (x31.set (Int.toNat r15) (if x30 > x29 then x30 else x29))))
                 ((cond (s1.Do == 7)
                    ((chk (r13 = false)).bind fun _ =>
                    (r16[(Int.toNat r14)]?).bind fun x32 =>
                    (chk ((Int.toNat r15) < x32.length)).bind fun _ =>
                    (idx m12 0).bind fun x33 =>
                    (idx m12 1).bind fun x34 =>
                    (cond (decide (x33 < x34))
                      ((chk (r13 = false)).bind fun _ =>
                       ((r16.set (Int.toNat r14) (x32.set (Int.toNat r15) 0))[(Int.toNat r14)]?).bind fun x35 =>
                       (chk ((Int.toNat r15) < x35.length)).bind fun _ =>
                       some ((r16.set (Int.toNat r14) (x32.set (Int.toNat r15) 0)).set (Int.toNat r14) (x35.set (Int.toNat r15) 1)))
                      (some (r16.set (Int.toNat r14) (x32.set (Int.toNat r15) 0)))).bind fun (m36 : List (List Int)) =>
                    some m36)
                    ((cond (s1.Do == 8)
                      ((idx m12 2).bind fun x37 =>
                       (chk (r13 = false)).bind fun _ =>
                       (r16[(Int.toNat r14)]?).bind fun x38 =>
                       (chk ((Int.toNat r15) < x38.length)).bind fun _ =>
                       (idx m12 0).bind fun x39 =>
                       (cond (x39 != 0)
                         ((idx m12 1).bind fun x40 =>
                         (chk (r13 = false)).bind fun _ =>
                         ((r16.set (Int.toNat r14) (x38.set (Int.toNat r15) x37))[(Int.toNat r14)]?).bind fun x41 =>
                         (chk ((Int.toNat r15) < x41.length)).bind fun _ =>
                         some ((r16.set (Int.toNat r14) (x38.set (Int.toNat r15) x37)).set (Int.toNat r14) (x41.set (Int.toNat r15) x40)))
                         (some (r16.set (Int.toNat r14) (x38.set (Int.toNat r15) x37)))).bind fun (m42 : List (List Int)) =>
                       some m42)
                      ((cond (s1.Do == 9)
                         ((chk (r13 = false)).bind fun _ =>
                         (idx m12 0).bind fun x43 =>
                         (r16[(Int.toNat r14)]?).bind fun x44 =>
                         (x44[(Int.toNat r15)]?).bind fun x45 =>
                         (chk (r13 = false)).bind fun _ =>
                         (r16[(Int.toNat r14)]?).bind fun x46 =>
                         (chk ((Int.toNat r15) < x46.length)).bind fun _ =>
                         some (r16.set (Int.toNat r14) (x46.set (Int.toNat r15) (IntKind.wrap .i64 (x45 + x43)))))
                         ((chk (r13 = false)).bind fun _ =>
                         (idx m12 0).bind fun x47 =>
                         (idx m12 1).bind fun x48 =>
                         (r16[(Int.toNat r14)]?).bind fun x49 =>
                         (x49[(Int.toNat r15)]?).bind fun x50 =>
                         (chk (r13 = false)).bind fun _ =>
                         (r16[(Int.toNat r14)]?).bind fun x51 =>
                         (chk ((Int.toNat r15) < x51.length)).bind fun _ =>
                         some (r16.set (Int.toNat r14) (x51.set (Int.toNat r15) (IntKind.wrap .i64 (x50 + (IntKind.wrap .i64 (x47 * x48)))))))).bind fun (m52 : List (List Int)) =>
                       some m52)).bind fun (m53 : List (List Int)) =>
                    some m53)).bind fun (m54 : List (List Int)) =>
                  some m54)).bind fun (m55 : List (List Int)) =>
               some m55)).bind fun (m56 : List (List Int)) =>
             some m56)).bind fun (m57 : List (List Int)) =>
          some m57)).bind fun (m58 : List (List Int)) =>
        some m58)).bind fun (m59 : List (List Int)) =>
     some m59)).bind fun (m60 : List (List Int)) =>
   some m60)
 else none
def nest_Run_y_2 (fu : Nat) (v1 : List Int) (m2 : List Int) (m3 : List SRow) (m4 : Int) (m5 : Int) (m6 : Int) (m7 : List Int) (m8 : Int) (m9 : List SAccess) (m10 : List (List Int)) : Option ((List Int) × (List SRow) × Int × Int × Int × (List Int) × Int × (List SAccess) × (List (List Int))) :=
 (nest_Memory_Do fu (⟨(⟨m2, m3⟩ : SPoints), m4, m5, (⟨m6, (⟨m7, m8⟩ : SRow)⟩ : SAccess), m9⟩ : SStmt) v1 m10).bind fun (r11 : List (List Int)) =>
 bif Nat.beq (List.length r11) (List.length m10) then
 some (m2, m3, m4, m5, m6, m7, m8, m9, r11)
 else none
def points_walk_2_l1 (self : SPoints → Int → (List Int) → (List Int) → (List SRow) → Int → Int → Int → (List Int) → Int → (List SAccess) → (List (List Int)) → Option (Bool × (List Int) × (List Int) × (List SRow) × Int × Int × Int × (List Int) × Int × (List SAccess) × (List (List Int)))) (fu : Nat) (p1 : SPoints) (k2 : Int) : (List Int) × (List Int) × (List SRow) × Int × Int × Int × (List Int) × Int × (List SAccess) × (List (List Int)) → Option (((List Int) × (List Int) × (List SRow) × Int × Int × Int × (List Int) × Int × (List SAccess) × (List (List Int))) ⊕ (Ex ((List Int) × (List Int) × (List SRow) × Int × Int × Int × (List Int) × Int × (List SAccess) × (List (List Int))) (Bool × (List Int) × (List Int) × (List SRow) × Int × Int × Int × (List Int) × Int × (List SAccess) × (List (List Int))))) := fun (m25, m26, m27, m28, m29, m30, m31, m32, m33, m34) =>
 (idx m25 k2).bind fun x50 =>
 (idx p1.Box k2).bind fun x51 =>
 cond (decide (x50 < x51))
  ((self p1 (IntKind.wrap .i64 (k2 + 1)) m25 m26 m27 m28 m29 m30 m31 m32 m33 m34).bind fun ((r52, r53, r54, r55, r56, r57, r58, r59, r60, r61, r62) : Bool × (List Int) × (List Int) × (List SRow) × Int × Int × Int × (List Int) × Int × (List SAccess) × (List (List Int))) =>
   bif Nat.beq (List.length r53) (List.length m25) then
   bif Nat.beq (List.length r62) (List.length m34) then
   cond (!r52)
    (some (.inr (.ret (false, r53, r54, r55, r56, r57, r58, r59, r60, r61, r62))))
    ((idx r53 k2).bind fun x63 =>
    (idx r53 k2).bind fun x64 =>
    some (.inl (r53.set k2.toNat (IntKind.wrap .i64 (x63 + 1)), r54, r55, r56, r57, r58, r59, r60, r61, r62)))
   else none
   else none)
  (some (.inr (.brk (m25, m26, m27, m28, m29, m30, m31, m32, m33, m34))))
def points_walk_2_b (self : SPoints → Int → (List Int) → (List Int) → (List SRow) → Int → Int → Int → (List Int) → Int → (List SAccess) → (List (List Int)) → Option (Bool × (List Int) × (List Int) × (List SRow) × Int × Int × Int × (List Int) × Int × (List SAccess) × (List (List Int)))) (fu : Nat) (p1 : SPoints) (k2 : Int) (m3 : List Int) (m4 : List Int) (m5 : List SRow) (m6 : Int) (m7 : Int) (m8 : Int) (m9 : List Int) (m10 : Int) (m11 : List SAccess) (m12 : List (List Int)) : Option (Bool × (List Int) × (List Int) × (List SRow) × Int × Int × Int × (List Int) × Int × (List SAccess) × (List (List Int))) :=
 (points_hopeless fu p1 m3 k2).bind fun (r13 : Bool) =>
 cond r13
  (some (true, m3, m4, m5, m6, m7, m8, m9, m10, m11, m12))
  (cond (k2 == (p1.Box.length : Int))
    ((slices_Clone_2 fu m3).bind fun (r14 : List Int) =>
    (nest_Run_y_2 fu r14 m4 m5 m6 m7 m8 m9 m10 m11 m12).bind fun ((r15, r16, r17, r18, r19, r20, r21, r22, r23) : (List Int) × (List SRow) × Int × Int × Int × (List Int) × Int × (List SAccess) × (List (List Int))) =>
    bif Nat.beq (List.length r23) (List.length m12) then
    some (true, m3, r15, r16, r17, r18, r19, r20, r21, r22, r23)
    else none)
    ((idx m3 k2).bind fun x24 =>
    bindE (fun r => r) (loopF (points_walk_2_l1 self fu p1 k2) fu (m3.set k2.toNat 0, m4, m5, m6, m7, m8, m9, m10, m11, m12) : Option (Ex ((List Int) × (List Int) × (List SRow) × Int × Int × Int × (List Int) × Int × (List SAccess) × (List (List Int))) (Bool × (List Int) × (List Int) × (List SRow) × Int × Int × Int × (List Int) × Int × (List SAccess) × (List (List Int))))) fun ((m65, m66, m67, m68, m69, m70, m71, m72, m73, m74) : (List Int) × (List Int) × (List SRow) × Int × Int × Int × (List Int) × Int × (List SAccess) × (List (List Int))) =>
    some (true, m65, m66, m67, m68, m69, m70, m71, m72, m73, m74)))
def points_walk_2 : Nat → SPoints → Int → (List Int) → (List Int) → (List SRow) → Int → Int → Int → (List Int) → Int → (List SAccess) → (List (List Int)) → Option (Bool × (List Int) × (List Int) × (List SRow) × Int × Int × Int × (List Int) × Int × (List SAccess) × (List (List Int)))
 | 0 => fun _ _ _ _ _ _ _ _ _ _ _ _ => none
 | fu + 1 => points_walk_2_b (points_walk_2 fu) (fu + 1)
def points_All_1 (fu : Nat) (m1 : List Int) (m2 : List SRow) (m3 : List Int) (m4 : List SRow) (m5 : Int) (m6 : Int) (m7 : Int) (m8 : List Int) (m9 : Int) (m10 : List SAccess) (m11 : List (List Int)) : Option ((List Int) × (List SRow) × (List Int) × (List SRow) × Int × Int × Int × (List Int) × Int × (List SAccess) × (List (List Int))) :=
 (points_Wrong fu (⟨m1, m2⟩ : SPoints)).bind fun (r12 : Int) =>
 (cond (r12 == 0)
   ((chk ((0 : Int) ≤ (m1.length : Int) ∧ (m1.length : Int) ≤ (m1.length : Int) ∧ ((8 : Nat) : Int) * (m1.length : Int) ≤ 281474976710656 ∧ (m1.length : Int) ≤ 9223372036854775807)).bind fun _ =>
    (points_walk_2 fu (⟨m1, m2⟩ : SPoints) 0 (List.replicate (Int.toNat (m1.length : Int)) (0 : Int)) m3 m4 m5 m6 m7 m8 m9 m10 m11).bind fun ((r13, r14, r15, r16, r17, r18, r19, r20, r21, r22, r23) : Bool × (List Int) × (List Int) × (List SRow) × Int × Int × Int × (List Int) × Int × (List SAccess) × (List (List Int))) =>
    bif Nat.beq (List.length r14) (List.length (List.replicate (Int.toNat (m1.length : Int)) (0 : Int))) then
    bif Nat.beq (List.length r23) (List.length m11) then
    some (r15, r16, r17, r18, r19, r20, r21, r22, r23)
    else none
    else none)
   (some (m3, m4, m5, m6, m7, m8, m9, m10, m11))).bind fun ((m24, m25, m26, m27, m28, m29, m30, m31, m32) : (List Int) × (List SRow) × Int × Int × Int × (List Int) × Int × (List SAccess) × (List (List Int))) =>
 some (m1, m2, m24, m25, m26, m27, m28, m29, m30, m31, m32)
def nest_Run_l1 (fu : Nat) (n1 : SNest) : Int × (List (List Int)) → Option ((Int × (List (List Int))) ⊕ (List (List Int))) := fun (v6, m7) =>
 cond (decide (v6 < (n1.Stmts.length : Int)))
  ((idx n1.Stmts v6).bind fun x8 =>
   (points_All fu x8.Over).bind fun ((r9, r10) : (List Int) × (List SRow)) =>
   (points_All_1 fu r9 r10 x8.Over.Box x8.Over.Rows x8.Do x8.Value x8.Put.Array x8.Put.At.Coef x8.Put.At.Const x8.Get m7).bind fun ((r11, r12, r13, r14, r15, r16, r17, r18, r19, r20, r21) : (List Int) × (List SRow) × (List Int) × (List SRow) × Int × Int × Int × (List Int) × Int × (List SAccess) × (List (List Int))) =>
   bif Nat.beq (List.length r21) (List.length m7) then
   some (.inl (IntKind.wrap .i64 (v6 + 1), r21))
   else none)
  (some (.inr m7))
def nest_Run (fu : Nat) (n1 : SNest) (mem2 : List (List Int)) : Option ((List (List Int)) × Int) :=
 (nest_Wrong fu n1).bind fun (r3 : Int) =>
 cond (r3 != 0)
  (some (([] : List (List Int)), r3))
  ((nest_Copied fu n1 mem2).bind fun ((r4, r5) : Int × (List (List Int))) =>
   cond (r4 != 0)
    (some (([] : List (List Int)), r4))
    ((loopF (nest_Run_l1 fu n1) fu (0, r5)).bind fun (m22 : List (List Int)) =>
    some (m22, 0)))
def adjointref9_Row_l1 (fu : Nat) (r1 : SRow) : Int → Option (Int ⊕ (Ex Unit Int)) := fun v3 =>
 cond (decide (v3 < (([r1.Const] ++ r1.Coef).length : Int)))
  ((idx ([r1.Const] ++ r1.Coef) v3).bind fun x4 =>
   (cond (decide (x4 > 1048576)) (some true) (some (decide (x4 < (-1048576))))).bind fun (v5 : Bool) =>
   cond v5
    (some (.inr (.ret 4)))
    (some (.inl (IntKind.wrap .i64 (v3 + 1)))))
  (some (.inr (.brk ())))
def adjointref9_Row (fu : Nat) (r1 : SRow) (vars2 : Int) : Option (Int) :=
 cond ((r1.Coef.length : Int) != vars2)
  (some 6)
  ((chk ([r1.Const].length + r1.Coef.length ≤ maxLen ∧ ([r1.Const].length + r1.Coef.length) * 8 ≤ 140737488355328)).bind fun _ =>
   bindE (fun r => r) (loopF (adjointref9_Row_l1 fu r1) fu 0 : Option (Ex Unit Int)) fun (_ : Unit) =>
   some 0)
def adjointref9_Wrong_l1 (fu : Nat) (p1 : SPoints) : Int × Int → Option ((Int × Int) ⊕ (Ex Int Int)) := fun (n2, v3) =>
 cond (decide (v3 < (p1.Box.length : Int)))
  ((idx p1.Box v3).bind fun x4 =>
   (cond (decide (x4 < 0)) (some true) (some (decide (x4 > 4096)))).bind fun (v5 : Bool) =>
   cond v5
    (some (.inr (.ret 4)))
    (some (.inl (IntKind.wrap .i64 (n2 * x4), IntKind.wrap .i64 (v3 + 1)))))
  (some (.inr (.brk n2)))
def adjointref9_Wrong_l2 (fu : Nat) (p1 : SPoints) : Int → Option (Int ⊕ (Ex Unit Int)) := fun v7 =>
 cond (decide (v7 < (p1.Rows.length : Int)))
  ((idx p1.Rows v7).bind fun x8 =>
   (adjointref9_Row fu x8 (p1.Box.length : Int)).bind fun (r9 : Int) =>
   cond (r9 != 0)
    (some (.inr (.ret r9)))
    (some (.inl (IntKind.wrap .i64 (v7 + 1)))))
  (some (.inr (.brk ())))
def adjointref9_Wrong (fu : Nat) (p1 : SPoints) : Option (Int) :=
 cond (decide ((p1.Box.length : Int) > 4))
  (some 3)
  (bindE (fun r => r) (loopF (adjointref9_Wrong_l1 fu p1) fu (1, 0) : Option (Ex Int Int)) fun (n6 : Int) =>
   cond (decide (n6 > 4096))
    (some 5)
    (cond (decide ((p1.Rows.length : Int) > 8))
     (some 2)
     (bindE (fun r => r) (loopF (adjointref9_Wrong_l2 fu p1) fu 0 : Option (Ex Unit Int)) fun (_ : Unit) =>
      some 0)))
def adjointref10_Takes (fu : Nat) (do1 : Int) : Option (Int) :=
 cond (do1 == 1)
  (some 0)
  ((cond (do1 == 2)
     (some (do1 == 2))
     (some (do1 == 9))).bind fun (v2 : Bool) =>
   cond v2
    (some 1)
    ((cond (do1 == 3)
      (some (do1 == 3))
      ((cond (do1 == 4)
         (some (do1 == 4))
         ((cond (do1 == 5)
           (some (do1 == 5))
           ((cond (do1 == 6)
              (some (do1 == 6))
              ((cond (do1 == 7)
                (some (do1 == 7))
                (some (do1 == 10))).bind fun (v3 : Bool) =>
              some v3)).bind fun (v4 : Bool) =>
            some v4)).bind fun (v5 : Bool) =>
         some v5)).bind fun (v6 : Bool) =>
       some v6)).bind fun (v7 : Bool) =>
    cond v7
     (some 2)
     (cond (do1 == 8)
       (some 3)
       (some (-1)))))
def adjointref10_access (fu : Nat) (n1 : SNest) (a2 : SAccess) (vars3 : Int) : Option (Int) :=
 (cond (decide (a2.Array < 0)) (some true) (some (decide (a2.Array ≥ (n1.Sizes.length : Int))))).bind fun (v4 : Bool) =>
 cond v4
  (some 4)
  ((adjointref9_Row fu a2.At vars3).bind fun (r5 : Int) =>
   some r5)
def adjointref10_Wrong_l1 (fu : Nat) (n1 : SNest) : Int → Option (Int ⊕ (Ex Unit Int)) := fun v2 =>
 cond (decide (v2 < (n1.Sizes.length : Int)))
  ((idx n1.Sizes v2).bind fun x3 =>
   (cond (decide (x3 < 0)) (some true) (some (decide (x3 > 65536)))).bind fun (v4 : Bool) =>
   cond v4
    (some (.inr (.ret 4)))
    (some (.inl (IntKind.wrap .i64 (v2 + 1)))))
  (some (.inr (.brk ())))
def adjointref10_Wrong_l2 (fu : Nat) (n1 : SNest) (x6 : SStmt) : Int → Option (Int ⊕ (Ex Unit (Int ⊕ (Ex Unit Int)))) := fun v11 =>
 cond (decide (v11 < (x6.Get.length : Int)))
  ((idx x6.Get v11).bind fun x12 =>
   (adjointref10_access fu n1 x12 (x6.Over.Box.length : Int)).bind fun (r13 : Int) =>
   cond (r13 != 0)
    (some (.inr (.ret (.inr (.ret r13)))))
    (some (.inl (IntKind.wrap .i64 (v11 + 1)))))
  (some (.inr (.brk ())))
def adjointref10_Wrong_l3 (fu : Nat) (n1 : SNest) : Int → Option (Int ⊕ (Ex Unit Int)) := fun v5 =>
 cond (decide (v5 < (n1.Stmts.length : Int)))
  ((idx n1.Stmts v5).bind fun x6 =>
   (adjointref9_Wrong fu x6.Over).bind fun (r7 : Int) =>
   cond (r7 != 0)
    (some (.inr (.ret r7)))
    ((adjointref10_Takes fu x6.Do).bind fun (r8 : Int) =>
    cond (decide (r8 < 0))
     (some (.inr (.ret 1)))
     ((adjointref10_Takes fu x6.Do).bind fun (r9 : Int) =>
      cond (r9 != (x6.Get.length : Int))
       (some (.inr (.ret 2)))
       ((adjointref10_access fu n1 x6.Put (x6.Over.Box.length : Int)).bind fun (r10 : Int) =>
       cond (r10 != 0)
        (some (.inr (.ret r10)))
        (bindE (fun r => r) (loopF (adjointref10_Wrong_l2 fu n1 x6) fu 0 : Option (Ex Unit (Int ⊕ (Ex Unit Int)))) fun (_ : Unit) =>
         some (.inl (IntKind.wrap .i64 (v5 + 1))))))))
  (some (.inr (.brk ())))
def adjointref10_Wrong (fu : Nat) (n1 : SNest) : Option (Int) :=
 cond (decide ((n1.Stmts.length : Int) > 256))
  (some 2)
  (bindE (fun r => r) (loopF (adjointref10_Wrong_l1 fu n1) fu 0 : Option (Ex Unit Int)) fun (_ : Unit) =>
   bindE (fun r => r) (loopF (adjointref10_Wrong_l3 fu n1) fu 0 : Option (Ex Unit Int)) fun (_ : Unit) =>
   some 0)
def adjointref10_Fits_l1 (fu : Nat) (n1 : SNest) (mem2 : List (List Int)) : Int → Option (Int ⊕ (Ex Unit Int)) := fun v3 =>
 cond (decide (v3 < (mem2.length : Int)))
  ((idx mem2 v3).bind fun x4 =>
   (idx n1.Sizes v3).bind fun x5 =>
   cond ((x4.length : Int) != x5)
    (some (.inr (.ret 6)))
    (some (.inl (IntKind.wrap .i64 (v3 + 1)))))
  (some (.inr (.brk ())))
def adjointref10_Fits (fu : Nat) (n1 : SNest) (mem2 : List (List Int)) : Option (Int) :=
 cond ((mem2.length : Int) != (n1.Sizes.length : Int))
  (some 2)
  (bindE (fun r => r) (loopF (adjointref10_Fits_l1 fu n1 mem2) fu 0 : Option (Ex Unit Int)) fun (_ : Unit) =>
   some 0)
def adjointref10_Copy_l1 (fu : Nat) (mem1 : List (List Int)) : Int × (List (List Int)) → Option ((Int × (List (List Int))) ⊕ (List (List Int))) := fun (v2, m3) =>
 cond (decide (v2 < (mem1.length : Int)))
  ((idx mem1 v2).bind fun x4 =>
   (chk (([] : List Int).length + x4.length ≤ maxLen ∧ (([] : List Int).length + x4.length) * 8 ≤ 140737488355328)).bind fun _ =>
   (chk (0 < [([] : List Int) ++ x4].length ∧ m3.length + [([] : List Int) ++ x4].length ≤ maxLen ∧ (m3.length + [([] : List Int) ++ x4].length) * 24 ≤ 140737488355328)).bind fun _ =>
   some (.inl (IntKind.wrap .i64 (v2 + 1), m3 ++ [([] : List Int) ++ x4])))
  (some (.inr m3))
def adjointref10_Copy (fu : Nat) (mem1 : List (List Int)) : Option (List (List Int)) :=
 (loopF (adjointref10_Copy_l1 fu mem1) fu (0, ([] : List (List Int)))).bind fun (m5 : List (List Int)) =>
 some m5
def adjointref9_Box_l2 (self : (List Int) → Option (List (List Int))) (fu : Nat) (box1 : List Int) (x11 : List Int) : Int × (List (List Int)) → Option ((Int × (List (List Int))) ⊕ (List (List Int))) := fun (i12, m13) =>
 (idx box1 (IntKind.wrap .i64 ((box1.length : Int) - 1))).bind fun x14 =>
 cond (decide (i12 < x14))
  ((chk (([] : List Int).length + x11.length ≤ maxLen ∧ (([] : List Int).length + x11.length) * 8 ≤ 140737488355328)).bind fun _ =>
   (chk ((([] : List Int) ++ x11).length + [i12].length ≤ maxLen ∧ ((([] : List Int) ++ x11).length + [i12].length) * 8 ≤ 140737488355328)).bind fun _ =>
   (chk (m13.length + [(([] : List Int) ++ x11) ++ [i12]].length ≤ maxLen ∧ (m13.length + [(([] : List Int) ++ x11) ++ [i12]].length) * 24 ≤ 140737488355328)).bind fun _ =>
   some (.inl (IntKind.wrap .i64 (i12 + 1), m13 ++ [(([] : List Int) ++ x11) ++ [i12]])))
  (some (.inr m13))
def adjointref9_Box_l3 (self : (List Int) → Option (List (List Int))) (fu : Nat) (box1 : List Int) (r2 : List (List Int)) : Int × (List (List Int)) → Option ((Int × (List (List Int))) ⊕ (List (List Int))) := fun (v3, m4) =>
 cond (decide (v3 < (r2.length : Int)))
  ((idx r2 v3).bind fun x11 =>
   (loopF (adjointref9_Box_l2 self fu box1 x11) fu (0, m4)).bind fun (m15 : List (List Int)) =>
   some (.inl (IntKind.wrap .i64 (v3 + 1), m15)))
  (some (.inr m4))
def adjointref9_Box_b (self : (List Int) → Option (List (List Int))) (fu : Nat) (box1 : List Int) : Option (List (List Int)) :=
 cond ((box1.length : Int) == 0)
  (some [([] : List Int)])
  ((chk ((0 : Int) ≤ (IntKind.wrap .i64 ((box1.length : Int) - 1)) ∧ (IntKind.wrap .i64 ((box1.length : Int) - 1)) ≤ (box1.length : Int))).bind fun _ =>
   (self (lpart box1 0 (IntKind.wrap .i64 ((box1.length : Int) - 1)))).bind fun (r2 : List (List Int)) =>
   (loopF (adjointref9_Box_l3 self fu box1 r2) fu (0, ([] : List (List Int)))).bind fun (m16 : List (List Int)) =>
   some m16)
def adjointref9_Box : Nat → (List Int) → Option (List (List Int))
 | 0 => fun _ => none
 | fu + 1 => adjointref9_Box_b (adjointref9_Box fu) (fu + 1)
def adjointref9_At_l1 (fu : Nat) (r1 : SRow) (x2 : List Int) : Int × Int → Option ((Int × Int) ⊕ Int) := fun (n3, v4) =>
 cond (decide (v4 < (r1.Coef.length : Int)))
  ((idx r1.Coef v4).bind fun x5 =>
   (idx x2 v4).bind fun x6 =>
   some (.inl (IntKind.wrap .i64 (n3 + (IntKind.wrap .i64 (x5 * x6))), IntKind.wrap .i64 (v4 + 1))))
  (some (.inr n3))
def adjointref9_At (fu : Nat) (r1 : SRow) (x2 : List Int) : Option (Int) :=
 (loopF (adjointref9_At_l1 fu r1 x2) fu (r1.Const, 0)).bind fun (n7 : Int) =>
 some n7
def adjointref9_All_l1 (fu : Nat) (p1 : SPoints) (x5 : List Int) : Bool × Int → Option ((Bool × Int) ⊕ Bool) := fun (ok6, v7) =>
 cond (decide (v7 < (p1.Rows.length : Int)))
  ((idx p1.Rows v7).bind fun x8 =>
   (cond ok6 ((adjointref9_At fu x8 x5).bind fun (r9 : Int) =>
    some (decide (r9 ≥ 0))) (some false)).bind fun (ok10 : Bool) =>
   some (.inl (ok10, IntKind.wrap .i64 (v7 + 1))))
  (some (.inr ok6))
def adjointref9_All_l2 (fu : Nat) (p1 : SPoints) (r2 : List (List Int)) : Int × (List (List Int)) → Option ((Int × (List (List Int))) ⊕ (List (List Int))) := fun (v3, m4) =>
 cond (decide (v3 < (r2.length : Int)))
  ((idx r2 v3).bind fun x5 =>
   (loopF (adjointref9_All_l1 fu p1 x5) fu (true, 0)).bind fun (ok11 : Bool) =>
   (cond ok11
     ((chk (m4.length + [x5].length ≤ maxLen ∧ (m4.length + [x5].length) * 24 ≤ 140737488355328)).bind fun _ =>
     some (m4 ++ [x5]))
     (some m4)).bind fun (m12 : List (List Int)) =>
   some (.inl (IntKind.wrap .i64 (v3 + 1), m12)))
  (some (.inr m4))
def adjointref9_All (fu : Nat) (p1 : SPoints) : Option (List (List Int)) :=
 (adjointref9_Box fu p1.Box).bind fun (r2 : List (List Int)) =>
 (loopF (adjointref9_All_l2 fu p1 r2) fu (0, ([] : List (List Int)))).bind fun (m13 : List (List Int)) =>
 some m13
def adjointref10_Spots_l1 (fu : Nat) (v2 : Int) (r5 : List (List Int)) : Int × (List SSpot) → Option ((Int × (List SSpot)) ⊕ (List SSpot)) := fun (v6, m7) =>
 cond (decide (v6 < (r5.length : Int)))
  ((idx r5 v6).bind fun x8 =>
   (chk (m7.length + [(⟨v2, x8⟩ : SSpot)].length ≤ maxLen ∧ (m7.length + [(⟨v2, x8⟩ : SSpot)].length) * 32 ≤ 140737488355328)).bind fun _ =>
   some (.inl (IntKind.wrap .i64 (v6 + 1), m7 ++ [(⟨v2, x8⟩ : SSpot)])))
  (some (.inr m7))
def adjointref10_Spots_l2 (fu : Nat) (n1 : SNest) : Int × (List SSpot) → Option ((Int × (List SSpot)) ⊕ (List SSpot)) := fun (v2, m3) =>
 cond (decide (v2 < (n1.Stmts.length : Int)))
  ((idx n1.Stmts v2).bind fun x4 =>
   (adjointref9_All fu x4.Over).bind fun (r5 : List (List Int)) =>
   (loopF (adjointref10_Spots_l1 fu v2 r5) fu (0, m3)).bind fun (m9 : List SSpot) =>
   some (.inl (IntKind.wrap .i64 (v2 + 1), m9)))
  (some (.inr m3))
def adjointref10_Spots (fu : Nat) (n1 : SNest) : Option (List SSpot) :=
 (loopF (adjointref10_Spots_l2 fu n1) fu (0, ([] : List SSpot))).bind fun (m10 : List SSpot) =>
 some m10
def adjointref10_Where (fu : Nat) (n1 : SNest) (a2 : SAccess) (x3 : List Int) : Option (Int) :=
 (adjointref9_At fu a2.At x3).bind fun (r4 : Int) =>
 (cond (decide (r4 < 0)) (some true) ((idx n1.Sizes a2.Array).bind fun x5 =>
  some (decide (r4 ≥ x5)))).bind fun (v6 : Bool) =>
 cond v6
  (some (-1))
  (some r4)
def adjointref10_Number (fu : Nat) (s1 : SStmt) (v2 : List Int) (was3 : Int) : Option (Int) :=
 cond (s1.Do == 1)
  (some s1.Value)
  (cond (s1.Do == 2)
    ((idx v2 0).bind fun x4 =>
    some x4)
    (cond (s1.Do == 3)
     ((idx v2 0).bind fun x5 =>
      (idx v2 1).bind fun x6 =>
      some (IntKind.wrap .i64 (x5 + x6)))
     (cond (s1.Do == 4)
       ((idx v2 0).bind fun x7 =>
       (idx v2 1).bind fun x8 =>
       some (IntKind.wrap .i64 (x7 - x8)))
       (cond (s1.Do == 5)
        ((idx v2 0).bind fun x9 =>
         (idx v2 1).bind fun x10 =>
         some (IntKind.wrap .i64 (x9 * x10)))
        (cond (s1.Do == 6)
          ((idx v2 0).bind fun x11 =>
          (idx v2 1).bind fun x12 =>
          cond (decide (x11 > x12))
           ((idx v2 0).bind fun x13 =>
            some x13)
           ((idx v2 1).bind fun x14 =>
            some x14))
          (cond (s1.Do == 7)
           ((idx v2 0).bind fun x15 =>
            (idx v2 1).bind fun x16 =>
            cond (decide (x15 < x16))
             (some 1)
             (some 0))
           (cond (s1.Do == 8)
             ((idx v2 0).bind fun x17 =>
             cond (x17 != 0)
              ((idx v2 1).bind fun x18 =>
               some x18)
              ((idx v2 2).bind fun x19 =>
               some x19))
             (cond (s1.Do == 9)
              ((idx v2 0).bind fun x20 =>
               some (IntKind.wrap .i64 (was3 + x20)))
              ((idx v2 0).bind fun x21 =>
               (idx v2 1).bind fun x22 =>
               some (IntKind.wrap .i64 (was3 + (IntKind.wrap .i64 (x21 * x22)))))))))))))
def adjointref10_Do_l1 (fu : Nat) (n1 : SNest) (s2 : SStmt) (x3 : List Int) (m4 : List (List Int)) : Int × (List Int) → Option ((Int × (List Int)) ⊕ (List Int)) := fun (v6, m7) =>
 cond (decide (v6 < (s2.Get.length : Int)))
  ((idx s2.Get v6).bind fun x8 =>
   (adjointref10_Where fu n1 x8 x3).bind fun (r9 : Int) =>
   (cond (decide (r9 < 0))
     ((chk (m7.length + [0].length ≤ maxLen ∧ (m7.length + [0].length) * 8 ≤ 140737488355328)).bind fun _ =>
     some (m7 ++ [0]))
     ((chk ((0 : Int) ≤ x8.Array ∧ x8.Array < (m4.length : Int))).bind fun _ =>
     (m4[x8.Array.toNat]?).bind fun x10 =>
     (chk ((0 : Int) ≤ r9 ∧ r9 < ((List.length x10 : Nat) : Int))).bind fun _ =>
     (m4[x8.Array.toNat]?).bind fun x11 =>
     (x11[r9.toNat]?).bind fun x12 =>
     (chk (m7.length + [x12].length ≤ maxLen ∧ (m7.length + [x12].length) * 8 ≤ 140737488355328)).bind fun _ =>
     some (m7 ++ [x12]))).bind fun (m13 : List Int) =>
   some (.inl (IntKind.wrap .i64 (v6 + 1), m13)))
  (some (.inr m7))
def adjointref10_Do (fu : Nat) (n1 : SNest) (s2 : SStmt) (x3 : List Int) (m4 : List (List Int)) : Option (List (List Int)) :=
 (adjointref10_Where fu n1 s2.Put x3).bind fun (r5 : Int) =>
 cond (decide (r5 < 0))
  (some m4)
  ((loopF (adjointref10_Do_l1 fu n1 s2 x3 m4) fu (0, ([] : List Int))).bind fun (m14 : List Int) =>
   ((chk ((0 : Int) ≤ s2.Put.Array ∧ s2.Put.Array < (m4.length : Int))).bind fun _ =>
    (chk ((0 : Int) ≤ s2.Put.Array ∧ s2.Put.Array < (m4.length : Int))).bind fun _ =>
    amb ((m4[s2.Put.Array.toNat]?).bind fun x15 =>
    (m4[s2.Put.Array.toNat]?).bind fun x16 =>
    (chk ((0 : Int) ≤ r5 ∧ r5 < ((List.length x16 : Nat) : Int))).bind fun _ =>
    (m4[s2.Put.Array.toNat]?).bind fun x17 =>
    (x17[r5.toNat]?).bind fun x18 =>
    (adjointref10_Number fu (⟨(⟨s2.Over.Box, s2.Over.Rows⟩ : SPoints), s2.Do, s2.Value, (⟨s2.Put.Array, (⟨s2.Put.At.Coef, s2.Put.At.Const⟩ : SRow)⟩ : SAccess), s2.Get⟩ : SStmt) m14 x18).bind fun (r19 : Int) =>
    (chk ((0 : Int) ≤ r5 ∧ r5 < ((List.length x15 : Nat) : Int))).bind fun _ =>
    (m4[s2.Put.Array.toNat]?).bind fun x20 =>
    (chk (r5.toNat < x20.length)).bind fun _ =>
    some (m4.set s2.Put.Array.toNat (x20.set r5.toNat r19))) ((m4[s2.Put.Array.toNat]?).bind fun x15 =>
    (chk ((0 : Int) ≤ r5 ∧ r5 < ((List.length x15 : Nat) : Int))).bind fun _ =>
    amb ((m4[s2.Put.Array.toNat]?).bind fun x16 =>
    (m4[s2.Put.Array.toNat]?).bind fun x17 =>
    (x17[r5.toNat]?).bind fun x18 =>
    (adjointref10_Number fu (⟨(⟨s2.Over.Box, s2.Over.Rows⟩ : SPoints), s2.Do, s2.Value, (⟨s2.Put.Array, (⟨s2.Put.At.Coef, s2.Put.At.Const⟩ : SRow)⟩ : SAccess), s2.Get⟩ : SStmt) m14 x18).bind fun (r19 : Int) =>
    (chk ((0 : Int) ≤ r5 ∧ r5 < ((List.length x16 : Nat) : Int))).bind fun _ =>
    (m4[s2.Put.Array.toNat]?).bind fun x20 =>
    (chk (r5.toNat < x20.length)).bind fun _ =>
    some (m4.set s2.Put.Array.toNat (x20.set r5.toNat r19))) ((m4[s2.Put.Array.toNat]?).bind fun x16 =>
    (x16[r5.toNat]?).bind fun x17 =>
    amb ((m4[s2.Put.Array.toNat]?).bind fun x18 =>
    (adjointref10_Number fu (⟨(⟨s2.Over.Box, s2.Over.Rows⟩ : SPoints), s2.Do, s2.Value, (⟨s2.Put.Array, (⟨s2.Put.At.Coef, s2.Put.At.Const⟩ : SRow)⟩ : SAccess), s2.Get⟩ : SStmt) m14 x17).bind fun (r19 : Int) =>
    (chk ((0 : Int) ≤ r5 ∧ r5 < ((List.length x18 : Nat) : Int))).bind fun _ =>
    (m4[s2.Put.Array.toNat]?).bind fun x20 =>
    (chk (r5.toNat < x20.length)).bind fun _ =>
    some (m4.set s2.Put.Array.toNat (x20.set r5.toNat r19))) ((adjointref10_Number fu (⟨(⟨s2.Over.Box, s2.Over.Rows⟩ : SPoints), s2.Do, s2.Value, (⟨s2.Put.Array, (⟨s2.Put.At.Coef, s2.Put.At.Const⟩ : SRow)⟩ : SAccess), s2.Get⟩ : SStmt) m14 x17).bind fun (r18 : Int) =>
    (m4[s2.Put.Array.toNat]?).bind fun x19 =>
    (chk ((0 : Int) ≤ r5 ∧ r5 < ((List.length x19 : Nat) : Int))).bind fun _ =>
    (m4[s2.Put.Array.toNat]?).bind fun x20 =>
    (chk (r5.toNat < x20.length)).bind fun _ =>
    some (m4.set s2.Put.Array.toNat (x20.set r5.toNat r18)))))).bind fun (m21 : List (List Int)) =>
   some m21)
def adjointref10_Run_l1 (fu : Nat) (n1 : SNest) (r6 : List SSpot) : Int × (List (List Int)) → Option ((Int × (List (List Int))) ⊕ (List (List Int))) := fun (v7, m8) =>
 cond (decide (v7 < (r6.length : Int)))
  ((idx r6 v7).bind fun x9 =>
   (idx n1.Stmts x9.Stmt).bind fun x10 =>
   (adjointref10_Do fu n1 x10 x9.At m8).bind fun (r11 : List (List Int)) =>
   bif Nat.beq (List.length r11) (List.length m8) then
   some (.inl (IntKind.wrap .i64 (v7 + 1), r11))
   else none)
  (some (.inr m8))
def adjointref10_Run (fu : Nat) (n1 : SNest) (mem2 : List (List Int)) : Option ((List (List Int)) × Int) :=
 (adjointref10_Wrong fu n1).bind fun (r3 : Int) =>
 cond (r3 != 0)
  (some (([] : List (List Int)), r3))
  ((adjointref10_Fits fu n1 mem2).bind fun (r4 : Int) =>
   cond (r4 != 0)
    (some (([] : List (List Int)), r4))
    ((adjointref10_Copy fu mem2).bind fun (r5 : List (List Int)) =>
    (adjointref10_Spots fu n1).bind fun (r6 : List SSpot) =>
    (loopF (adjointref10_Run_l1 fu n1 r6) fu (0, r5)).bind fun (m12 : List (List Int)) =>
    some (m12, 0)))
def adjointref10_SameMemory_l1 (fu : Nat) (a1 : List (List Int)) (b2 : List (List Int)) (v3 : Int) (x6 : List Int) : Int → Option (Int ⊕ (Ex Unit (Int ⊕ (Ex Unit Bool)))) := fun v7 =>
 cond (decide (v7 < (x6.length : Int)))
  ((idx a1 v3).bind fun x8 =>
   (idx x8 v7).bind fun x9 =>
   (idx b2 v3).bind fun x10 =>
   (idx x10 v7).bind fun x11 =>
   cond (x9 != x11)
    (some (.inr (.ret (.inr (.ret false)))))
    (some (.inl (IntKind.wrap .i64 (v7 + 1)))))
  (some (.inr (.brk ())))
def adjointref10_SameMemory_l2 (fu : Nat) (a1 : List (List Int)) (b2 : List (List Int)) : Int → Option (Int ⊕ (Ex Unit Bool)) := fun v3 =>
 cond (decide (v3 < (a1.length : Int)))
  ((idx a1 v3).bind fun x4 =>
   (idx b2 v3).bind fun x5 =>
   cond ((x4.length : Int) != (x5.length : Int))
    (some (.inr (.ret false)))
    ((idx a1 v3).bind fun x6 =>
    bindE (fun r => r) (loopF (adjointref10_SameMemory_l1 fu a1 b2 v3 x6) fu 0 : Option (Ex Unit (Int ⊕ (Ex Unit Bool)))) fun (_ : Unit) =>
    some (.inl (IntKind.wrap .i64 (v3 + 1)))))
  (some (.inr (.brk ())))
def adjointref10_SameMemory (fu : Nat) (a1 : List (List Int)) (b2 : List (List Int)) : Option (Bool) :=
 cond ((a1.length : Int) != (b2.length : Int))
  (some false)
  (bindE (fun r => r) (loopF (adjointref10_SameMemory_l2 fu a1 b2) fu 0 : Option (Ex Unit Bool)) fun (_ : Unit) =>
   some true)
def adjointlaw10_NestRuns (fu : Nat) (n1 : SNest) (mem2 : List (List Int)) : Option (Bool) :=
 (nest_Run fu n1 mem2).bind fun ((r3, r4) : (List (List Int)) × Int) =>
 (adjointref10_Run fu n1 mem2).bind fun ((r5, r6) : (List (List Int)) × Int) =>
 ((adjointref10_SameMemory fu r3 r5).bind fun (r7 : Bool) =>
  cond r7 (cond (r4 == r6) (amb (amb2 ((nest_Wrong fu n1).bind fun (r8 : Int) =>
  (adjointref10_Wrong fu n1).bind fun (r9 : Int) =>
  some (r8 == r9))) ((nest_Wrong fu n1).bind fun (r8 : Int) =>
  (adjointref10_Wrong fu n1).bind fun (r9 : Int) =>
  some (r8 == r9))) (some false)) (some false)).bind fun (v10 : Bool) =>
 some v10
end F
end
end Go.DN
