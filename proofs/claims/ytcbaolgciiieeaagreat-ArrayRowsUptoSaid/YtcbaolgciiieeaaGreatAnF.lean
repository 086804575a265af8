/-
  The functions, as Lean functions over data.
-/
import Derived.Test.YtcbaolgciiieeaaGreatAnS
set_option maxRecDepth 20000
set_option linter.unusedVariables false
set_option linter.unusedSectionVars false
set_option linter.unusedSimpArgs false
namespace Go.DN
open Go.AM
noncomputable section
namespace F
def array_many (fu : Nat) (kind1 : Int) : Option (Int) :=
 cond (kind1 == 2)
  (some 0)
  ((cond (kind1 == 9)
     (some (kind1 == 9))
     ((cond (kind1 == 10)
       (some (kind1 == 10))
       ((cond (kind1 == 11)
          (some (kind1 == 11))
          ((cond (kind1 == 12)
            (some (kind1 == 12))
            ((cond (kind1 == 13)
               (some (kind1 == 13))
               ((cond (kind1 == 14)
                 (some (kind1 == 14))
                 (some (kind1 == 15))).bind fun (v2 : Bool) =>
               some v2)).bind fun (v3 : Bool) =>
             some v3)).bind fun (v4 : Bool) =>
          some v4)).bind fun (v5 : Bool) =>
        some v5)).bind fun (v6 : Bool) =>
     some v6)).bind fun (v7 : Bool) =>
   cond v7
    (some 1)
    ((cond (kind1 == 3)
      (some (kind1 == 3))
      ((cond (kind1 == 4)
         (some (kind1 == 4))
         ((cond (kind1 == 5)
           (some (kind1 == 5))
           ((cond (kind1 == 6)
              (some (kind1 == 6))
              ((cond (kind1 == 7)
                (some (kind1 == 7))
                ((cond (kind1 == 16)
                   (some (kind1 == 16))
                   ((cond (kind1 == 18)
                     (some (kind1 == 18))
                     (some (kind1 == 19))).bind fun (v8 : Bool) =>
                   some v8)).bind fun (v9 : Bool) =>
                 some v9)).bind fun (v10 : Bool) =>
              some v10)).bind fun (v11 : Bool) =>
            some v11)).bind fun (v12 : Bool) =>
         some v12)).bind fun (v13 : Bool) =>
       some v13)).bind fun (v14 : Bool) =>
    cond v14
     (some 2)
     (cond (kind1 == 8)
       (some 3)
       (cond (kind1 == 17)
        (some (-1))
        (some (-2))))))
def view_Size_1 (fu : Nat) (d1 : Int) : Option (Bool) :=
 (cond (decide (d1 < 0)) (some true) (some (decide (d1 > 4096)))).bind fun (v2 : Bool) =>
 some v2
def slices_IndexFunc_l1 (fu : Nat) (s1 : List Int) : Int → Option (Int ⊕ (Ex Unit Int)) := fun v2 =>
 cond (decide (v2 < (s1.length : Int)))
  ((idx s1 v2).bind fun x3 =>
   (view_Size_1 fu x3).bind fun (r4 : Bool) =>
   cond r4
    (some (.inr (.ret v2)))
    (some (.inl (IntKind.wrap .i64 (v2 + 1)))))
  (some (.inr (.brk ())))
def slices_IndexFunc (fu : Nat) (s1 : List Int) : Option (Int) :=
 bindE (fun r => r) (loopF (slices_IndexFunc_l1 fu s1) fu 0 : Option (Ex Unit Int)) fun (_ : Unit) =>
 some (-1)
def slices_ContainsFunc (fu : Nat) (s1 : List Int) : Option (Bool) :=
 (slices_IndexFunc fu s1).bind fun (r2 : Int) =>
 some (decide (r2 ≥ 0))
def slices_Index_l1 (fu : Nat) (s1 : List Int) (v2 : Int) : Int → Option (Int ⊕ (Ex Unit Int)) := fun v3 =>
 cond (decide (v3 < (s1.length : Int)))
  ((idx s1 v3).bind fun x4 =>
   cond (v2 == x4)
    (some (.inr (.ret v3)))
    (some (.inl (IntKind.wrap .i64 (v3 + 1)))))
  (some (.inr (.brk ())))
def slices_Index (fu : Nat) (s1 : List Int) (v2 : Int) : Option (Int) :=
 bindE (fun r => r) (loopF (slices_Index_l1 fu s1 v2) fu 0 : Option (Ex Unit Int)) fun (_ : Unit) =>
 some (-1)
def slices_Contains (fu : Nat) (s1 : List Int) (v2 : Int) : Option (Bool) :=
 (slices_Index fu s1 v2).bind fun (r3 : Int) =>
 some (decide (r3 ≥ 0))
def view_Size_l1 (fu : Nat) (dims1 : List Int) : Int × Int → Option ((Int × Int) ⊕ (Ex Int (Int × Int))) := fun (n3, v4) =>
 cond (decide (v4 < (dims1.length : Int)))
  ((idx dims1 v4).bind fun x5 =>
   (cond (decide ((IntKind.wrap .i64 (n3 * x5)) > 65536)) ((slices_Contains fu dims1 0).bind fun (r6 : Bool) =>
    some (!r6)) (some false)).bind fun (v7 : Bool) =>
   cond v7
    (some (.inr (.ret (0, 5))))
    (some (.inl ((if 65537 < (IntKind.wrap .i64 (n3 * x5)) then 65537 else (IntKind.wrap .i64 (n3 * x5))), IntKind.wrap .i64 (v4 + 1)))))
  (some (.inr (.brk n3)))
def view_Size (fu : Nat) (dims1 : List Int) : Option (Int × Int) :=
 cond (decide ((dims1.length : Int) > 6))
  (some (0, 3))
  ((slices_ContainsFunc fu dims1).bind fun (r2 : Bool) =>
   cond r2
    (some (0, 4))
    (bindE (fun r => r) (loopF (view_Size_l1 fu dims1) fu (1, 0) : Option (Ex Int (Int × Int))) fun (n8 : Int) =>
    some (n8, 0)))
def array_fits_l1 (fu : Nat) (args2 : List (List Int)) : Int → Option (Int ⊕ (Ex Unit Int)) := fun v5 =>
 cond (decide (v5 < (args2.length : Int)))
  ((idx args2 v5).bind fun x6 =>
   (view_Size fu x6).bind fun ((r7, r8) : Int × Int) =>
   cond (r8 != 0)
    (some (.inr (.ret r8)))
    (some (.inl (IntKind.wrap .i64 (v5 + 1)))))
  (some (.inr (.brk ())))
def array_fits (fu : Nat) (op1 : SOp) (args2 : List (List Int)) : Option (Int) :=
 (array_many fu op1.Kind).bind fun (r3 : Int) =>
 cond (r3 == (-2))
  (some 1)
  ((cond (decide (r3 ≥ 0)) (cond (r3 != (args2.length : Int)) (some true) (cond (r3 == (-1)) (some ((args2.length : Int) == 0)) (some false))) (cond (r3 == (-1)) (some ((args2.length : Int) == 0)) (some false))).bind fun (v4 : Bool) =>
   cond v4
    (some 2)
    (bindE (fun r => r) (loopF (array_fits_l1 fu args2) fu 0 : Option (Ex Unit Int)) fun (_ : Unit) =>
    some 0))
def slices_Clone (fu : Nat) (s1 : List Int) : Option (List Int) :=
 nilF (s1.length : Int) (some ([] : List Int)) ((chk (([] : List Int).length + s1.length ≤ maxLen ∧ (([] : List Int).length + s1.length) * 8 ≤ 140737488355328)).bind fun _ =>
 some (([] : List Int) ++ s1))
def slices_Equal_l1 (fu : Nat) (s1 : List Int) (s2 : List Int) : Int → Option (Int ⊕ (Ex Unit Bool)) := fun v3 =>
 cond (decide (v3 < (s1.length : Int)))
  ((idx s1 v3).bind fun x4 =>
   (idx s2 v3).bind fun x5 =>
   cond (x4 != x5)
    (some (.inr (.ret false)))
    (some (.inl (IntKind.wrap .i64 (v3 + 1)))))
  (some (.inr (.brk ())))
def slices_Equal (fu : Nat) (s1 : List Int) (s2 : List Int) : Option (Bool) :=
 cond ((s1.length : Int) != (s2.length : Int))
  (some false)
  (bindE (fun r => r) (loopF (slices_Equal_l1 fu s1 s2) fu 0 : Option (Ex Unit Bool)) fun (_ : Unit) =>
   some true)
def cmp_isNaN (fu : Nat) (x1 : Int) : Option (Bool) :=
 some (x1 != x1)
def cmp_Less (fu : Nat) (x1 : Int) (y2 : Int) : Option (Bool) :=
 ((cmp_isNaN fu x1).bind fun (r3 : Bool) =>
  cond r3 ((cmp_isNaN fu y2).bind fun (r4 : Bool) =>
  cond (!r4) (some true) (some (decide (x1 < y2)))) (some (decide (x1 < y2)))).bind fun (v5 : Bool) =>
 some v5
def slices_IsSorted_l1 (fu : Nat) (x1 : List Int) : Int → Option (Int ⊕ (Ex Unit Bool)) := fun i2 =>
 cond (decide (i2 > 0))
  ((idx x1 i2).bind fun x3 =>
   (idx x1 (IntKind.wrap .i64 (i2 - 1))).bind fun x4 =>
   (cmp_Less fu x3 x4).bind fun (r5 : Bool) =>
   cond r5
    (some (.inr (.ret false)))
    (some (.inl (IntKind.wrap .i64 (i2 - 1)))))
  (some (.inr (.brk ())))
def slices_IsSorted (fu : Nat) (x1 : List Int) : Option (Bool) :=
 bindE (fun r => r) (loopF (slices_IsSorted_l1 fu x1) fu (IntKind.wrap .i64 ((x1.length : Int) - 1)) : Option (Ex Unit Bool)) fun (_ : Unit) =>
 some true
def array_distinct_l1 (fu : Nat) (at1 : List Int) (rank2 : Int) : Int × (List Bool) → Option ((Int × (List Bool)) ⊕ (Ex (List Bool) Bool)) := fun (v3, m4) =>
 cond (decide (v3 < (at1.length : Int)))
  ((idx at1 v3).bind fun x5 =>
   (cond (decide (x5 < 0)) (some true) (cond (decide (x5 ≥ rank2)) (some true) ((idx m4 x5).bind fun x6 =>
    some x6))).bind fun (v7 : Bool) =>
   cond v7
    (some (.inr (.ret false)))
    ((idx m4 x5).bind fun x8 =>
    some (.inl (IntKind.wrap .i64 (v3 + 1), m4.set x5.toNat true))))
  (some (.inr (.brk m4)))
def array_distinct (fu : Nat) (at1 : List Int) (rank2 : Int) : Option (Bool) :=
 (chk ((0 : Int) ≤ rank2 ∧ rank2 ≤ rank2 ∧ ((1 : Nat) : Int) * rank2 ≤ 281474976710656 ∧ rank2 ≤ 9223372036854775807)).bind fun _ =>
 bindE (fun r => r) (loopF (array_distinct_l1 fu at1 rank2) fu (0, List.replicate (Int.toNat rank2) (false : Bool)) : Option (Ex (List Bool) Bool)) fun (m9 : List Bool) =>
 some true
def array_rising (fu : Nat) (at1 : List Int) (rank2 : Int) : Option (Bool) :=
 ((slices_IsSorted fu at1).bind fun (r3 : Bool) =>
  cond r3 ((array_distinct fu at1 rank2).bind fun (r4 : Bool) =>
  some r4) (some false)).bind fun (v5 : Bool) =>
 some v5
def array_summed_l1 (fu : Nat) (at1 : List Int) (dims2 : List Int) : Int × (List Int) → Option ((Int × (List Int)) ⊕ (List Int)) := fun (v4, m5) =>
 cond (decide (v4 < (dims2.length : Int)))
  ((idx dims2 v4).bind fun x6 =>
   (slices_Contains fu at1 v4).bind fun (r7 : Bool) =>
   (cond (!r7)
     ((chk (m5.length + [x6].length ≤ maxLen ∧ (m5.length + [x6].length) * 8 ≤ 140737488355328)).bind fun _ =>
     some (m5 ++ [x6]))
     (some m5)).bind fun (m8 : List Int) =>
   some (.inl (IntKind.wrap .i64 (v4 + 1), m8)))
  (some (.inr m5))
def array_summed (fu : Nat) (at1 : List Int) (dims2 : List Int) : Option ((List Int) × Int) :=
 (array_rising fu at1 (dims2.length : Int)).bind fun (r3 : Bool) =>
 cond (!r3)
  (some (([] : List Int), 6))
  ((loopF (array_summed_l1 fu at1 dims2) fu (0, ([] : List Int))).bind fun (m9 : List Int) =>
   some (m9, 0))
def array_padded_1 (fu : Nat) (x1 : Int) (least2 : Int) : Option (Bool) :=
 (cond (decide (x1 < least2)) (some true) (some (decide (x1 > 4096)))).bind fun (v3 : Bool) =>
 some v3
def array_padded_l1 (fu : Nat) (op1 : SOp) (dims2 : List Int) : Int × (List Int) → Option ((Int × (List Int)) ⊕ (Ex (List Int) ((List Int) × Int))) := fun (v4, m5) =>
 cond (decide (v4 < (dims2.length : Int)))
  (((idx op1.Lo v4).bind fun x6 =>
    (array_padded_1 fu x6 0).bind fun (r7 : Bool) =>
    cond r7 (some true) ((idx op1.Hi v4).bind fun x8 =>
    (array_padded_1 fu x8 0).bind fun (r9 : Bool) =>
    cond r9 (some true) ((idx op1.Step v4).bind fun x10 =>
    (array_padded_1 fu x10 1).bind fun (r11 : Bool) =>
    some r11))).bind fun (v12 : Bool) =>
   cond v12
    (some (.inr (.ret (([] : List Int), 4))))
    ((idx op1.Lo v4).bind fun x13 =>
    (idx op1.Hi v4).bind fun x14 =>
    (idx m5 v4).bind fun x15 =>
    (idx dims2 v4).bind fun x16 =>
    (cond (decide (x16 > 0))
      ((idx (m5.set v4.toNat (IntKind.wrap .i64 (x13 + x14))) v4).bind fun x17 =>
       (idx dims2 v4).bind fun x18 =>
       (idx op1.Step v4).bind fun x19 =>
       (idx (m5.set v4.toNat (IntKind.wrap .i64 (x13 + x14))) v4).bind fun x20 =>
       some ((m5.set v4.toNat (IntKind.wrap .i64 (x13 + x14))).set v4.toNat (IntKind.wrap .i64 (x17 + (IntKind.wrap .i64 ((IntKind.wrap .i64 ((IntKind.wrap .i64 (x18 - 1)) * x19)) + 1))))))
      (some (m5.set v4.toNat (IntKind.wrap .i64 (x13 + x14))))).bind fun (m21 : List Int) =>
    some (.inl (IntKind.wrap .i64 (v4 + 1), m21))))
  (some (.inr (.brk m5)))
def array_padded (fu : Nat) (op1 : SOp) (dims2 : List Int) : Option ((List Int) × Int) :=
 (cond ((op1.Lo.length : Int) != (dims2.length : Int)) (some true) (cond ((op1.Hi.length : Int) != (dims2.length : Int)) (some true) (some ((op1.Step.length : Int) != (dims2.length : Int))))).bind fun (v3 : Bool) =>
 cond v3
  (some (([] : List Int), 6))
  ((chk ((0 : Int) ≤ (dims2.length : Int) ∧ (dims2.length : Int) ≤ (dims2.length : Int) ∧ ((8 : Nat) : Int) * (dims2.length : Int) ≤ 281474976710656 ∧ (dims2.length : Int) ≤ 9223372036854775807)).bind fun _ =>
   bindE (fun r => r) (loopF (array_padded_l1 fu op1 dims2) fu (0, List.replicate (Int.toNat (dims2.length : Int)) (0 : Int)) : Option (Ex (List Int) ((List Int) × Int))) fun (m22 : List Int) =>
   some (m22, 0))
def array_pair_1_3 (fu : Nat) (d1 : Int) (m2 : List Int) (m3 : List Int) (m4 : Int) (m5 : Int) (m6 : Int) (m7 : Int) (m8 : List Int) : Option ((List Int) × (List Int) × Int × Int × Int × Int × (List Int)) :=
 some (m2, m3, (if 65537 < (IntKind.wrap .i64 (m4 * d1)) then 65537 else (IntKind.wrap .i64 (m4 * d1))), m5, m6, m7, m8)
def array_pair_1_6 (fu : Nat) (d1 : Int) (m2 : List Int) (m3 : List Int) (m4 : Int) (m5 : Int) (m6 : Int) (m7 : Int) (m8 : List Int) : Option ((List Int) × (List Int) × Int × Int × Int × Int × (List Int)) :=
 some (m2, m3, m4, (if 65537 < (IntKind.wrap .i64 (m5 * d1)) then 65537 else (IntKind.wrap .i64 (m5 * d1))), m6, m7, m8)
def array_pair_2_l1 (fu : Nat) (in1 : List Int) (dims2 : List Int) : Int × (List Int) × (List Int) × (List Int) × Int × Int × Int × Int × (List Int) → Option ((Int × (List Int) × (List Int) × (List Int) × Int × Int × Int × Int × (List Int)) ⊕ ((List Int) × (List Int) × (List Int) × Int × Int × Int × Int × (List Int))) := fun (v10, m11, m12, m13, m14, m15, m16, m17, m18) =>
 cond (decide (v10 < (dims2.length : Int)))
  ((idx dims2 v10).bind fun x19 =>
   (slices_Contains fu in1 v10).bind fun (r20 : Bool) =>
   (cond (!r20)
     ((chk (m18.length + [v10].length ≤ maxLen ∧ (m18.length + [v10].length) * 8 ≤ 140737488355328)).bind fun _ =>
     (chk (m11.length + [x19].length ≤ maxLen ∧ (m11.length + [x19].length) * 8 ≤ 140737488355328)).bind fun _ =>
     (array_pair_1_6 fu x19 m12 m13 m14 m15 m16 m17 (m11 ++ [x19])).bind fun ((r21, r22, r23, r24, r25, r26, r27) : (List Int) × (List Int) × Int × Int × Int × Int × (List Int)) =>
     bif Nat.beq (List.length r27) (List.length (m11 ++ [x19])) then
     some (r27, r21, r22, r23, r24, r25, r26, m18 ++ [v10])
     else none)
     (some (m11, m12, m13, m14, m15, m16, m17, m18))).bind fun ((m28, m29, m30, m31, m32, m33, m34, m35) : (List Int) × (List Int) × (List Int) × Int × Int × Int × Int × (List Int)) =>
   some (.inl (IntKind.wrap .i64 (v10 + 1), m28, m29, m30, m31, m32, m33, m34, m35)))
  (some (.inr (m11, m12, m13, m14, m15, m16, m17, m18)))
def array_pair_2 (fu : Nat) (in1 : List Int) (dims2 : List Int) (m3 : List Int) (m4 : List Int) (m5 : Int) (m6 : Int) (m7 : Int) (m8 : Int) (m9 : List Int) : Option ((List Int) × (List Int) × (List Int) × Int × Int × Int × Int × (List Int)) :=
 (loopF (array_pair_2_l1 fu in1 dims2) fu (0, m9, m3, m4, m5, m6, m7, m8, ([] : List Int))).bind fun ((m36, m37, m38, m39, m40, m41, m42, m43) : (List Int) × (List Int) × (List Int) × Int × Int × Int × Int × (List Int)) =>
 some (m43, m37, m38, m39, m40, m41, m42, m36)
def array_pair_1_9 (fu : Nat) (d1 : Int) (m2 : List Int) (m3 : List Int) (m4 : Int) (m5 : Int) (m6 : Int) (m7 : Int) (m8 : List Int) : Option ((List Int) × (List Int) × Int × Int × Int × Int × (List Int)) :=
 some (m2, m3, m4, m5, (if 65537 < (IntKind.wrap .i64 (m6 * d1)) then 65537 else (IntKind.wrap .i64 (m6 * d1))), m7, m8)
def array_pair_2_2_l1 (fu : Nat) (in1 : List Int) (dims2 : List Int) : Int × (List Int) × (List Int) × (List Int) × Int × Int × Int × Int × (List Int) → Option ((Int × (List Int) × (List Int) × (List Int) × Int × Int × Int × Int × (List Int)) ⊕ ((List Int) × (List Int) × (List Int) × Int × Int × Int × Int × (List Int))) := fun (v10, m11, m12, m13, m14, m15, m16, m17, m18) =>
 cond (decide (v10 < (dims2.length : Int)))
  ((idx dims2 v10).bind fun x19 =>
   (slices_Contains fu in1 v10).bind fun (r20 : Bool) =>
   (cond (!r20)
     ((chk (m18.length + [v10].length ≤ maxLen ∧ (m18.length + [v10].length) * 8 ≤ 140737488355328)).bind fun _ =>
     (chk (m11.length + [x19].length ≤ maxLen ∧ (m11.length + [x19].length) * 8 ≤ 140737488355328)).bind fun _ =>
     (array_pair_1_9 fu x19 m12 m13 m14 m15 m16 m17 (m11 ++ [x19])).bind fun ((r21, r22, r23, r24, r25, r26, r27) : (List Int) × (List Int) × Int × Int × Int × Int × (List Int)) =>
     bif Nat.beq (List.length r27) (List.length (m11 ++ [x19])) then
     some (r27, r21, r22, r23, r24, r25, r26, m18 ++ [v10])
     else none)
     (some (m11, m12, m13, m14, m15, m16, m17, m18))).bind fun ((m28, m29, m30, m31, m32, m33, m34, m35) : (List Int) × (List Int) × (List Int) × Int × Int × Int × Int × (List Int)) =>
   some (.inl (IntKind.wrap .i64 (v10 + 1), m28, m29, m30, m31, m32, m33, m34, m35)))
  (some (.inr (m11, m12, m13, m14, m15, m16, m17, m18)))
def array_pair_2_2 (fu : Nat) (in1 : List Int) (dims2 : List Int) (m3 : List Int) (m4 : List Int) (m5 : Int) (m6 : Int) (m7 : Int) (m8 : Int) (m9 : List Int) : Option ((List Int) × (List Int) × (List Int) × Int × Int × Int × Int × (List Int)) :=
 (loopF (array_pair_2_2_l1 fu in1 dims2) fu (0, m9, m3, m4, m5, m6, m7, m8, ([] : List Int))).bind fun ((m36, m37, m38, m39, m40, m41, m42, m43) : (List Int) × (List Int) × (List Int) × Int × Int × Int × Int × (List Int)) =>
 some (m43, m37, m38, m39, m40, m41, m42, m36)
def array_pair_1_12 (fu : Nat) (d1 : Int) (m2 : List Int) (m3 : List Int) (m4 : Int) (m5 : Int) (m6 : Int) (m7 : Int) (m8 : List Int) : Option ((List Int) × (List Int) × Int × Int × Int × Int × (List Int)) :=
 some (m2, m3, m4, m5, m6, (if 65537 < (IntKind.wrap .i64 (m7 * d1)) then 65537 else (IntKind.wrap .i64 (m7 * d1))), m8)
def array_pair_l1 (fu : Nat) (a2 : List Int) (b3 : List Int) (inA6 : List Int) (inB7 : List Int) : Int × (List Int) × (List Int) × (List Int) × Int × Int × Int × Int → Option ((Int × (List Int) × (List Int) × (List Int) × Int × Int × Int × Int) ⊕ (Ex ((List Int) × (List Int) × (List Int) × Int × Int × Int × Int) (Spairing × Int))) := fun (v11, m12, m13, m14, m15, m16, m17, m18) =>
 cond (decide (v11 < (inA6.length : Int)))
  ((idx inA6 v11).bind fun x19 =>
   (idx a2 x19).bind fun x20 =>
   (idx inB7 v11).bind fun x21 =>
   (idx b3 x21).bind fun x22 =>
   cond (x20 != x22)
    (some (.inr (.ret ((⟨([] : List Int), ([] : List Int), ([] : List Int), 0, 0, 0, 0⟩ : Spairing), 6))))
    (some (.inl (IntKind.wrap .i64 (v11 + 1), m12, m13, m14, m15, m16, m17, m18))))
  (some (.inr (.brk (m12, m13, m14, m15, m16, m17, m18))))
def array_pair_l2 (fu : Nat) (op1 : SOp) (a2 : List Int) : Int × (List Int) × (List Int) × Int × Int × Int × Int × (List Int) → Option ((Int × (List Int) × (List Int) × Int × Int × Int × Int × (List Int)) ⊕ ((List Int) × (List Int) × Int × Int × Int × Int × (List Int))) := fun (v30, m31, m32, m33, m34, m35, m36, m37) =>
 cond (decide (v30 < (op1.Lo.length : Int)))
  ((idx op1.Lo v30).bind fun x38 =>
   ((idx a2 x38).bind fun x39 =>
    amb2 ((chk (m37.length + [x39].length ≤ maxLen ∧ (m37.length + [x39].length) * 8 ≤ 140737488355328)).bind fun _ =>
    some (m37 ++ [x39], m31, m32, m33, m34, m35, m36))).bind fun ((m40, m41, m42, m43, m44, m45, m46) : (List Int) × (List Int) × (List Int) × Int × Int × Int × Int) =>
   (idx a2 x38).bind fun x47 =>
   (array_pair_1_3 fu x47 m41 m42 m43 m44 m45 m46 m40).bind fun ((r48, r49, r50, r51, r52, r53, r54) : (List Int) × (List Int) × Int × Int × Int × Int × (List Int)) =>
   bif Nat.beq (List.length r54) (List.length m40) then
   some (.inl (IntKind.wrap .i64 (v30 + 1), r48, r49, r50, r51, r52, r53, r54))
   else none)
  (some (.inr (m31, m32, m33, m34, m35, m36, m37)))
def array_pair_l3 (fu : Nat) (op1 : SOp) (a2 : List Int) : Int × (List Int) × (List Int) × Int × Int × Int × Int × (List Int) → Option ((Int × (List Int) × (List Int) × Int × Int × Int × Int × (List Int)) ⊕ ((List Int) × (List Int) × Int × Int × Int × Int × (List Int))) := fun (v78, m79, m80, m81, m82, m83, m84, m85) =>
 cond (decide (v78 < (op1.At.length : Int)))
  ((idx op1.At v78).bind fun x86 =>
   (idx a2 x86).bind fun x87 =>
   (array_pair_1_12 fu x87 m79 m80 m81 m82 m83 m84 m85).bind fun ((r88, r89, r90, r91, r92, r93, r94) : (List Int) × (List Int) × Int × Int × Int × Int × (List Int)) =>
   bif Nat.beq (List.length r94) (List.length m85) then
   some (.inl (IntKind.wrap .i64 (v78 + 1), r88, r89, r90, r91, r92, r93, r94))
   else none)
  (some (.inr (m79, m80, m81, m82, m83, m84, m85)))
def array_pair (fu : Nat) (op1 : SOp) (a2 : List Int) (b3 : List Int) : Option (Spairing × Int) :=
 (amb (amb2 ((Go.Proofs.YtcbaolgciiieeaaGreat.F.slices_Concat fu [op1.Lo, op1.At]).bind fun (r4 : List Int) =>
  (Go.Proofs.YtcbaolgciiieeaaGreat.F.slices_Concat fu [op1.Hi, op1.Step]).bind fun (r5 : List Int) =>
  some (r4, r5))) ((Go.Proofs.YtcbaolgciiieeaaGreat.F.slices_Concat fu [op1.Lo, op1.At]).bind fun (r4 : List Int) =>
  (Go.Proofs.YtcbaolgciiieeaaGreat.F.slices_Concat fu [op1.Hi, op1.Step]).bind fun (r5 : List Int) =>
  some (r4, r5))).bind fun ((inA6, inB7) : (List Int) × (List Int)) =>
 (cond ((op1.At.length : Int) != (op1.Step.length : Int)) (some true) (cond ((op1.Lo.length : Int) != (op1.Hi.length : Int)) (some true) ((array_distinct fu inA6 (a2.length : Int)).bind fun (r8 : Bool) =>
  cond (!r8) (some true) ((array_distinct fu inB7 (b3.length : Int)).bind fun (r9 : Bool) =>
  some (!r9))))).bind fun (v10 : Bool) =>
 cond v10
  (some ((⟨([] : List Int), ([] : List Int), ([] : List Int), 0, 0, 0, 0⟩ : Spairing), 6))
  (bindE (fun r => r) (loopF (array_pair_l1 fu a2 b3 inA6 inB7) fu (0, ([] : List Int), ([] : List Int), ([] : List Int), 0, 0, 0, 0) : Option (Ex ((List Int) × (List Int) × (List Int) × Int × Int × Int × Int) (Spairing × Int))) fun ((m23, m24, m25, m26, m27, m28, m29) : (List Int) × (List Int) × (List Int) × Int × Int × Int × Int) =>
   (loopF (array_pair_l2 fu op1 a2) fu (0, ([] : List Int), ([] : List Int), 1, 1, 1, 1, ([] : List Int))).bind fun ((m55, m56, m57, m58, m59, m60, m61) : (List Int) × (List Int) × Int × Int × Int × Int × (List Int)) =>
   (array_pair_2 fu inA6 a2 m55 m56 m57 m58 m59 m60 m61).bind fun ((r62, r63, r64, r65, r66, r67, r68, r69) : (List Int) × (List Int) × (List Int) × Int × Int × Int × Int × (List Int)) =>
   (array_pair_2_2 fu inB7 b3 r63 r64 r65 r66 r67 r68 r69).bind fun ((r70, r71, r72, r73, r74, r75, r76, r77) : (List Int) × (List Int) × (List Int) × Int × Int × Int × Int × (List Int)) =>
   (loopF (array_pair_l3 fu op1 a2) fu (0, r71, r72, r73, r74, r75, r76, r77)).bind fun ((m95, m96, m97, m98, m99, m100, m101) : (List Int) × (List Int) × Int × Int × Int × Int × (List Int)) =>
   (amb (amb2 ((Go.Proofs.YtcbaolgciiieeaaGreat.F.slices_Concat fu [op1.Lo, r62, op1.At]).bind fun (r102 : List Int) =>
    (Go.Proofs.YtcbaolgciiieeaaGreat.F.slices_Concat fu [op1.Hi, r70, op1.Step]).bind fun (r103 : List Int) =>
    some (r102, r103, m97, m98, m99, m100))) ((Go.Proofs.YtcbaolgciiieeaaGreat.F.slices_Concat fu [op1.Lo, r62, op1.At]).bind fun (r102 : List Int) =>
    (Go.Proofs.YtcbaolgciiieeaaGreat.F.slices_Concat fu [op1.Hi, r70, op1.Step]).bind fun (r103 : List Int) =>
    some (r102, r103, m97, m98, m99, m100))).bind fun ((m104, m105, m106, m107, m108, m109) : (List Int) × (List Int) × Int × Int × Int × Int) =>
   some ((⟨m104, m105, m101, m106, m107, m108, m109⟩ : Spairing), 0))
def array_joined_l1 (fu : Nat) (at1 : List Int) (m10 : List Int) (x11 : List Int) : Int → Option (Int ⊕ (Ex Unit ((Int × (List Int)) ⊕ (Ex (List Int) ((List Int) × Int))))) := fun v12 =>
 cond (decide (v12 < (m10.length : Int)))
  (((idx at1 0).bind fun x13 =>
    cond (v12 != x13) ((idx x11 v12).bind fun x14 =>
    (idx m10 v12).bind fun x15 =>
    some (x14 != x15)) (some false)).bind fun (v16 : Bool) =>
   cond v16
    (some (.inr (.ret (.inr (.ret (([] : List Int), 6))))))
    (some (.inl (IntKind.wrap .i64 (v12 + 1)))))
  (some (.inr (.brk ())))
def array_joined_l2 (fu : Nat) (at1 : List Int) (args2 : List (List Int)) : Int × (List Int) → Option ((Int × (List Int)) ⊕ (Ex (List Int) ((List Int) × Int))) := fun (v9, m10) =>
 cond (decide (v9 < ((lpart args2 1 (args2.length : Int)).length : Int)))
  ((idx (lpart args2 1 (args2.length : Int)) v9).bind fun x11 =>
   cond ((x11.length : Int) != (m10.length : Int))
    (some (.inr (.ret (([] : List Int), 6))))
    (bindE (fun r => r) (loopF (array_joined_l1 fu at1 m10 x11) fu 0 : Option (Ex Unit ((Int × (List Int)) ⊕ (Ex (List Int) ((List Int) × Int))))) fun (_ : Unit) =>
    (idx at1 0).bind fun x17 =>
    (idx m10 x17).bind fun x18 =>
    (idx at1 0).bind fun x19 =>
    (idx x11 x19).bind fun x20 =>
    (idx m10 x17).bind fun x21 =>
    some (.inl (IntKind.wrap .i64 (v9 + 1), m10.set x17.toNat (IntKind.wrap .i64 (x18 + x20))))))
  (some (.inr (.brk m10)))
def array_joined (fu : Nat) (at1 : List Int) (args2 : List (List Int)) : Option ((List Int) × Int) :=
 (cond ((at1.length : Int) != 1) (some true) ((idx at1 0).bind fun x3 =>
  cond (decide (x3 < 0)) (some true) ((idx at1 0).bind fun x4 =>
  (idx args2 0).bind fun x5 =>
  some (decide (x4 ≥ (x5.length : Int)))))).bind fun (v6 : Bool) =>
 cond v6
  (some (([] : List Int), 6))
  ((idx args2 0).bind fun x7 =>
   (slices_Clone fu x7).bind fun (r8 : List Int) =>
   (chk ((0 : Int) ≤ 1 ∧ 1 ≤ (args2.length : Int))).bind fun _ =>
   bindE (fun r => r) (loopF (array_joined_l2 fu at1 args2) fu (0, r8) : Option (Ex (List Int) ((List Int) × Int))) fun (m22 : List Int) =>
   some (m22, 0))
def slices_Backward (fu : Nat) (s1 : List Int) : Option (List Int) :=
 some s1
def view_rowMajor_y (fu : Nat) (v1 : Int) (v2 : Int) (m3 : List Int) (m4 : Int) (m5 : List Int) : Option ((List Int) × Int × (List Int)) :=
 (idx m5 v1).bind fun x6 =>
 (idx m3 v1).bind fun x7 =>
 some (m3, IntKind.wrap .i64 (m4 * x7), m5.set v1.toNat m4)
def slices_Backward_1_l1 (fu : Nat) (m1 : List Int) : Int × (List Int) × Int × (List Int) → Option ((Int × (List Int) × Int × (List Int)) ⊕ (Ex ((List Int) × Int × (List Int)) ((List Int) × (List Int) × Int × (List Int)))) := fun (i5, m6, m7, m8) =>
 cond (decide (i5 ≥ 0))
  ((idx m1 i5).bind fun x9 =>
   (view_rowMajor_y fu i5 x9 m6 m7 m8).bind fun ((r10, r11, r12) : (List Int) × Int × (List Int)) =>
   bif Nat.beq (List.length r12) (List.length m8) then
   cond (!true)
    (some (.inr (.ret (m1, r10, r11, r12))))
    (some (.inl (IntKind.wrap .i64 (i5 - 1), r10, r11, r12)))
   else none)
  (some (.inr (.brk (m6, m7, m8))))
def slices_Backward_1 (fu : Nat) (m1 : List Int) (m2 : List Int) (m3 : Int) (m4 : List Int) : Option ((List Int) × (List Int) × Int × (List Int)) :=
 bindE (fun r => r) (loopF (slices_Backward_1_l1 fu m1) fu (IntKind.wrap .i64 ((m1.length : Int) - 1), m2, m3, m4) : Option (Ex ((List Int) × Int × (List Int)) ((List Int) × (List Int) × Int × (List Int)))) fun ((m13, m14, m15) : (List Int) × Int × (List Int)) =>
 some (m1, m13, m14, m15)
def view_rowMajor (fu : Nat) (dims1 : List Int) : Option (List Int) :=
 (chk ((0 : Int) ≤ (dims1.length : Int) ∧ (dims1.length : Int) ≤ (dims1.length : Int) ∧ ((8 : Nat) : Int) * (dims1.length : Int) ≤ 281474976710656 ∧ (dims1.length : Int) ≤ 9223372036854775807)).bind fun _ =>
 (slices_Contains fu dims1 0).bind fun (r2 : Bool) =>
 cond r2
  (some (List.replicate (Int.toNat (dims1.length : Int)) (0 : Int)))
  ((slices_Backward fu dims1).bind fun (r3 : List Int) =>
   (slices_Backward_1 fu r3 dims1 1 (List.replicate (Int.toNat (dims1.length : Int)) (0 : Int))).bind fun ((r4, r5, r6, r7) : (List Int) × (List Int) × Int × (List Int)) =>
   bif Nat.beq (List.length r7) (List.length (List.replicate (Int.toNat (dims1.length : Int)) (0 : Int))) then
   some r7
   else none)
def view_Whole (fu : Nat) (dims1 : List Int) : Option (SView × Int) :=
 (view_Size fu dims1).bind fun ((r2, r3) : Int × Int) =>
 cond (r3 != 0)
  (some ((⟨0, ([] : List Int), ([] : List Int)⟩ : SView), r3))
  ((slices_Clone fu dims1).bind fun (r4 : List Int) =>
   (view_rowMajor fu dims1).bind fun (r5 : List Int) =>
   some ((⟨0, r4, r5⟩ : SView), 0))
def view_near (fu : Nat) (n1 : Int) : Option (Bool) :=
 (cond (decide (n1 ≥ (-1099511627776))) (some (decide (n1 ≤ 1099511627776))) (some false)).bind fun (v2 : Bool) =>
 some v2
def view_Wrong_1 (fu : Nat) (s1 : Int) : Option (Bool) :=
 (view_near fu s1).bind fun (r2 : Bool) =>
 some (!r2)
def slices_IndexFunc_2_l1 (fu : Nat) (s1 : List Int) : Int → Option (Int ⊕ (Ex Unit Int)) := fun v2 =>
 cond (decide (v2 < (s1.length : Int)))
  ((idx s1 v2).bind fun x3 =>
   (view_Wrong_1 fu x3).bind fun (r4 : Bool) =>
   cond r4
    (some (.inr (.ret v2)))
    (some (.inl (IntKind.wrap .i64 (v2 + 1)))))
  (some (.inr (.brk ())))
def slices_IndexFunc_2 (fu : Nat) (s1 : List Int) : Option (Int) :=
 bindE (fun r => r) (loopF (slices_IndexFunc_2_l1 fu s1) fu 0 : Option (Ex Unit Int)) fun (_ : Unit) =>
 some (-1)
def slices_ContainsFunc_2 (fu : Nat) (s1 : List Int) : Option (Bool) :=
 (slices_IndexFunc_2 fu s1).bind fun (r2 : Int) =>
 some (decide (r2 ≥ 0))
def view_Wrong (fu : Nat) (v1 : SView) : Option (Int) :=
 (view_Size fu v1.Dims).bind fun ((r2, r3) : Int × Int) =>
 cond (r3 != 0)
  (some r3)
  (cond ((v1.Steps.length : Int) != (v1.Dims.length : Int))
    (some 6)
    (((view_near fu v1.Start).bind fun (r4 : Bool) =>
     cond (!r4) (some true) ((slices_ContainsFunc_2 fu v1.Steps).bind fun (r5 : Bool) =>
     some r5)).bind fun (v6 : Bool) =>
    cond v6
     (some 4)
     (some 0)))
def view_rising_l1 (fu : Nat) (at1 : List Int) (rank2 : Int) : Int × Int → Option ((Int × Int) ⊕ (Ex Unit Bool)) := fun (last3, v4) =>
 cond (decide (v4 < (at1.length : Int)))
  ((idx at1 v4).bind fun x5 =>
   (cond (decide (x5 ≤ last3)) (some true) (some (decide (x5 ≥ rank2)))).bind fun (v6 : Bool) =>
   cond v6
    (some (.inr (.ret false)))
    (some (.inl (x5, IntKind.wrap .i64 (v4 + 1)))))
  (some (.inr (.brk ())))
def view_rising (fu : Nat) (at1 : List Int) (rank2 : Int) : Option (Bool) :=
 bindE (fun r => r) (loopF (view_rising_l1 fu at1 rank2) fu ((-1), 0) : Option (Ex Unit Bool)) fun (_ : Unit) =>
 some true
def view_Spread_l1 (fu : Nat) (v1 : SView) (dims2 : List Int) (at3 : List Int) : Int × Int × (List Int) × (List Int) × (List Int) × Int → Option ((Int × Int × (List Int) × (List Int) × (List Int) × Int) ⊕ (Ex (Int × (List Int) × (List Int) × (List Int) × Int) (SView × Int))) := fun (v13, m14, m15, m16, m17, m18) =>
 cond (decide (v13 < (at3.length : Int)))
  ((idx at3 v13).bind fun x19 =>
   (idx dims2 x19).bind fun x20 =>
   (idx v1.Dims v13).bind fun x21 =>
   cond (x20 != x21)
    (some (.inr (.ret ((⟨0, ([] : List Int), ([] : List Int)⟩ : SView), 6))))
    ((idx v1.Steps v13).bind fun x22 =>
    (idx m17 x19).bind fun x23 =>
    some (.inl (IntKind.wrap .i64 (v13 + 1), m14, m15, m16, m17.set x19.toNat x22, m18))))
  (some (.inr (.brk (m14, m15, m16, m17, m18))))
def view_Spread (fu : Nat) (v1 : SView) (dims2 : List Int) (at3 : List Int) : Option (SView × Int) :=
 (view_Wrong fu v1).bind fun (r4 : Int) =>
 cond (r4 != 0)
  (some ((⟨0, ([] : List Int), ([] : List Int)⟩ : SView), r4))
  ((view_Size fu dims2).bind fun ((r5, r6) : Int × Int) =>
   cond (r6 != 0)
    (some ((⟨0, ([] : List Int), ([] : List Int)⟩ : SView), r6))
    ((cond ((at3.length : Int) != (v1.Dims.length : Int)) (some true) ((view_rising fu at3 (dims2.length : Int)).bind fun (r7 : Bool) =>
     some (!r7))).bind fun (v8 : Bool) =>
    cond v8
     (some ((⟨0, ([] : List Int), ([] : List Int)⟩ : SView), 6))
     ((amb ((slices_Clone fu dims2).bind fun (r9 : List Int) =>
       amb2 ((chk ((0 : Int) ≤ (dims2.length : Int) ∧ (dims2.length : Int) ≤ (dims2.length : Int) ∧ ((8 : Nat) : Int) * (dims2.length : Int) ≤ 281474976710656 ∧ (dims2.length : Int) ≤ 9223372036854775807)).bind fun _ =>
       some (v1.Start, r9, List.replicate (Int.toNat (dims2.length : Int)) (0 : Int)))) (amb ((chk ((0 : Int) ≤ (dims2.length : Int) ∧ (dims2.length : Int) ≤ (dims2.length : Int) ∧ ((8 : Nat) : Int) * (dims2.length : Int) ≤ 281474976710656 ∧ (dims2.length : Int) ≤ 9223372036854775807)).bind fun _ =>
       amb2 ((slices_Clone fu dims2).bind fun (r9 : List Int) =>
       some (v1.Start, r9, List.replicate (Int.toNat (dims2.length : Int)) (0 : Int)))) (amb ((slices_Clone fu dims2).bind fun (r9 : List Int) =>
       (chk ((0 : Int) ≤ (dims2.length : Int) ∧ (dims2.length : Int) ≤ (dims2.length : Int) ∧ ((8 : Nat) : Int) * (dims2.length : Int) ≤ 281474976710656 ∧ (dims2.length : Int) ≤ 9223372036854775807)).bind fun _ =>
       some (v1.Start, r9, List.replicate (Int.toNat (dims2.length : Int)) (0 : Int))) ((chk ((0 : Int) ≤ (dims2.length : Int) ∧ (dims2.length : Int) ≤ (dims2.length : Int) ∧ ((8 : Nat) : Int) * (dims2.length : Int) ≤ 281474976710656 ∧ (dims2.length : Int) ≤ 9223372036854775807)).bind fun _ =>
       (slices_Clone fu dims2).bind fun (r9 : List Int) =>
       some (v1.Start, r9, List.replicate (Int.toNat (dims2.length : Int)) (0 : Int)))))).bind fun ((m10, m11, m12) : Int × (List Int) × (List Int)) =>
      bindE (fun r => r) (loopF (view_Spread_l1 fu v1 dims2 at3) fu (0, 0, ([] : List Int), ([] : List Int), m12, m10) : Option (Ex (Int × (List Int) × (List Int) × (List Int) × Int) (SView × Int))) fun ((m24, m25, m26, m27, m28) : Int × (List Int) × (List Int) × (List Int) × Int) =>
      some ((⟨m28, m11, m27⟩ : SView), 0))))
def view_Turn_l1 (fu : Nat) (v1 : SView) (perm2 : List Int) : Int × Int × (List Int) × (List Int) × (List Bool) × Int × (List Int) × (List Int) → Option ((Int × Int × (List Int) × (List Int) × (List Bool) × Int × (List Int) × (List Int)) ⊕ (Ex (Int × (List Int) × (List Int) × (List Bool) × Int × (List Int) × (List Int)) (SView × Int))) := fun (v4, m5, m6, m7, m8, m9, m10, m11) =>
 cond (decide (v4 < (perm2.length : Int)))
  ((idx perm2 v4).bind fun x12 =>
   (cond (decide (x12 < 0)) (some true) (cond (decide (x12 ≥ (m8.length : Int))) (some true) ((idx m8 x12).bind fun x13 =>
    some x13))).bind fun (v14 : Bool) =>
   cond v14
    (some (.inr (.ret ((⟨0, ([] : List Int), ([] : List Int)⟩ : SView), 6))))
    ((idx m8 x12).bind fun x15 =>
    ((idx v1.Dims x12).bind fun x16 =>
     (idx v1.Steps x12).bind fun x17 =>
     amb (amb (amb ((chk (m10.length + [x16].length ≤ maxLen ∧ (m10.length + [x16].length) * 8 ≤ 140737488355328)).bind fun _ =>
     amb2 ((chk (m11.length + [x17].length ≤ maxLen ∧ (m11.length + [x17].length) * 8 ≤ 140737488355328)).bind fun _ =>
     some (m10 ++ [x16], m11 ++ [x17], m9))) (amb (amb2 ((chk (m10.length + [x16].length ≤ maxLen ∧ (m10.length + [x16].length) * 8 ≤ 140737488355328)).bind fun _ =>
     (chk (m11.length + [x17].length ≤ maxLen ∧ (m11.length + [x17].length) * 8 ≤ 140737488355328)).bind fun _ =>
     some (m10 ++ [x16], m11 ++ [x17], m9))) (amb2 ((chk (m10.length + [x16].length ≤ maxLen ∧ (m10.length + [x16].length) * 8 ≤ 140737488355328)).bind fun _ =>
     (chk (m11.length + [x17].length ≤ maxLen ∧ (m11.length + [x17].length) * 8 ≤ 140737488355328)).bind fun _ =>
     some (m10 ++ [x16], m11 ++ [x17], m9))))) (amb (amb (amb2 ((chk (m10.length + [x16].length ≤ maxLen ∧ (m10.length + [x16].length) * 8 ≤ 140737488355328)).bind fun _ =>
     (chk (m11.length + [x17].length ≤ maxLen ∧ (m11.length + [x17].length) * 8 ≤ 140737488355328)).bind fun _ =>
     some (m10 ++ [x16], m11 ++ [x17], m9))) ((chk (m10.length + [x16].length ≤ maxLen ∧ (m10.length + [x16].length) * 8 ≤ 140737488355328)).bind fun _ =>
     (chk (m11.length + [x17].length ≤ maxLen ∧ (m11.length + [x17].length) * 8 ≤ 140737488355328)).bind fun _ =>
     some (m10 ++ [x16], m11 ++ [x17], m9))) (amb (amb2 ((chk (m10.length + [x16].length ≤ maxLen ∧ (m10.length + [x16].length) * 8 ≤ 140737488355328)).bind fun _ =>
     (chk (m11.length + [x17].length ≤ maxLen ∧ (m11.length + [x17].length) * 8 ≤ 140737488355328)).bind fun _ =>
     some (m10 ++ [x16], m11 ++ [x17], m9))) ((chk (m10.length + [x16].length ≤ maxLen ∧ (m10.length + [x16].length) * 8 ≤ 140737488355328)).bind fun _ =>
     (chk (m11.length + [x17].length ≤ maxLen ∧ (m11.length + [x17].length) * 8 ≤ 140737488355328)).bind fun _ =>
     some (m10 ++ [x16], m11 ++ [x17], m9))))) (amb (amb (amb ((chk (m10.length + [x16].length ≤ maxLen ∧ (m10.length + [x16].length) * 8 ≤ 140737488355328)).bind fun _ =>
     amb2 ((chk (m11.length + [x17].length ≤ maxLen ∧ (m11.length + [x17].length) * 8 ≤ 140737488355328)).bind fun _ =>
     some (m10 ++ [x16], m11 ++ [x17], m9))) (amb (amb2 ((chk (m10.length + [x16].length ≤ maxLen ∧ (m10.length + [x16].length) * 8 ≤ 140737488355328)).bind fun _ =>
     (chk (m11.length + [x17].length ≤ maxLen ∧ (m11.length + [x17].length) * 8 ≤ 140737488355328)).bind fun _ =>
     some (m10 ++ [x16], m11 ++ [x17], m9))) (amb2 ((chk (m10.length + [x16].length ≤ maxLen ∧ (m10.length + [x16].length) * 8 ≤ 140737488355328)).bind fun _ =>
     (chk (m11.length + [x17].length ≤ maxLen ∧ (m11.length + [x17].length) * 8 ≤ 140737488355328)).bind fun _ =>
     some (m10 ++ [x16], m11 ++ [x17], m9))))) (amb (amb (amb2 ((chk (m10.length + [x16].length ≤ maxLen ∧ (m10.length + [x16].length) * 8 ≤ 140737488355328)).bind fun _ =>
     (chk (m11.length + [x17].length ≤ maxLen ∧ (m11.length + [x17].length) * 8 ≤ 140737488355328)).bind fun _ =>
     some (m10 ++ [x16], m11 ++ [x17], m9))) ((chk (m10.length + [x16].length ≤ maxLen ∧ (m10.length + [x16].length) * 8 ≤ 140737488355328)).bind fun _ =>
     (chk (m11.length + [x17].length ≤ maxLen ∧ (m11.length + [x17].length) * 8 ≤ 140737488355328)).bind fun _ =>
     some (m10 ++ [x16], m11 ++ [x17], m9))) (amb (amb2 ((chk (m10.length + [x16].length ≤ maxLen ∧ (m10.length + [x16].length) * 8 ≤ 140737488355328)).bind fun _ =>
     (chk (m11.length + [x17].length ≤ maxLen ∧ (m11.length + [x17].length) * 8 ≤ 140737488355328)).bind fun _ =>
     some (m10 ++ [x16], m11 ++ [x17], m9))) ((chk (m10.length + [x16].length ≤ maxLen ∧ (m10.length + [x16].length) * 8 ≤ 140737488355328)).bind fun _ =>
     (chk (m11.length + [x17].length ≤ maxLen ∧ (m11.length + [x17].length) * 8 ≤ 140737488355328)).bind fun _ =>
     some (m10 ++ [x16], m11 ++ [x17], m9))))) (amb (amb (amb (amb2 ((chk (m10.length + [x16].length ≤ maxLen ∧ (m10.length + [x16].length) * 8 ≤ 140737488355328)).bind fun _ =>
     (chk (m11.length + [x17].length ≤ maxLen ∧ (m11.length + [x17].length) * 8 ≤ 140737488355328)).bind fun _ =>
     some (m10 ++ [x16], m11 ++ [x17], m9))) ((chk (m10.length + [x16].length ≤ maxLen ∧ (m10.length + [x16].length) * 8 ≤ 140737488355328)).bind fun _ =>
     (chk (m11.length + [x17].length ≤ maxLen ∧ (m11.length + [x17].length) * 8 ≤ 140737488355328)).bind fun _ =>
     some (m10 ++ [x16], m11 ++ [x17], m9))) (amb (amb (amb2 ((chk (m10.length + [x16].length ≤ maxLen ∧ (m10.length + [x16].length) * 8 ≤ 140737488355328)).bind fun _ =>
     (chk (m11.length + [x17].length ≤ maxLen ∧ (m11.length + [x17].length) * 8 ≤ 140737488355328)).bind fun _ =>
     some (m10 ++ [x16], m11 ++ [x17], m9))) ((chk (m10.length + [x16].length ≤ maxLen ∧ (m10.length + [x16].length) * 8 ≤ 140737488355328)).bind fun _ =>
     (chk (m11.length + [x17].length ≤ maxLen ∧ (m11.length + [x17].length) * 8 ≤ 140737488355328)).bind fun _ =>
     some (m10 ++ [x16], m11 ++ [x17], m9))) (amb2 ((chk (m10.length + [x16].length ≤ maxLen ∧ (m10.length + [x16].length) * 8 ≤ 140737488355328)).bind fun _ =>
     (chk (m11.length + [x17].length ≤ maxLen ∧ (m11.length + [x17].length) * 8 ≤ 140737488355328)).bind fun _ =>
     some (m10 ++ [x16], m11 ++ [x17], m9))))) (amb (amb (amb2 ((chk (m10.length + [x16].length ≤ maxLen ∧ (m10.length + [x16].length) * 8 ≤ 140737488355328)).bind fun _ =>
     (chk (m11.length + [x17].length ≤ maxLen ∧ (m11.length + [x17].length) * 8 ≤ 140737488355328)).bind fun _ =>
     some (m10 ++ [x16], m11 ++ [x17], m9))) ((chk (m10.length + [x16].length ≤ maxLen ∧ (m10.length + [x16].length) * 8 ≤ 140737488355328)).bind fun _ =>
     (chk (m11.length + [x17].length ≤ maxLen ∧ (m11.length + [x17].length) * 8 ≤ 140737488355328)).bind fun _ =>
     some (m10 ++ [x16], m11 ++ [x17], m9))) (amb (amb (amb2 ((chk (m10.length + [x16].length ≤ maxLen ∧ (m10.length + [x16].length) * 8 ≤ 140737488355328)).bind fun _ =>
     (chk (m11.length + [x17].length ≤ maxLen ∧ (m11.length + [x17].length) * 8 ≤ 140737488355328)).bind fun _ =>
     some (m10 ++ [x16], m11 ++ [x17], m9))) ((chk (m10.length + [x16].length ≤ maxLen ∧ (m10.length + [x16].length) * 8 ≤ 140737488355328)).bind fun _ =>
     (chk (m11.length + [x17].length ≤ maxLen ∧ (m11.length + [x17].length) * 8 ≤ 140737488355328)).bind fun _ =>
     some (m10 ++ [x16], m11 ++ [x17], m9))) (amb2 ((chk (m10.length + [x16].length ≤ maxLen ∧ (m10.length + [x16].length) * 8 ≤ 140737488355328)).bind fun _ =>
     (chk (m11.length + [x17].length ≤ maxLen ∧ (m11.length + [x17].length) * 8 ≤ 140737488355328)).bind fun _ =>
     some (m10 ++ [x16], m11 ++ [x17], m9)))))))).bind fun ((m18, m19, m20) : (List Int) × (List Int) × Int) =>
    some (.inl (IntKind.wrap .i64 (v4 + 1), m5, m6, m7, m8.set x12.toNat true, m20, m18, m19))))
  (some (.inr (.brk (m5, m6, m7, m8, m9, m10, m11))))
def view_Turn (fu : Nat) (v1 : SView) (perm2 : List Int) : Option (SView × Int) :=
 (view_Wrong fu v1).bind fun (r3 : Int) =>
 cond (r3 != 0)
  (some ((⟨0, ([] : List Int), ([] : List Int)⟩ : SView), r3))
  ((chk ((0 : Int) ≤ (v1.Dims.length : Int) ∧ (v1.Dims.length : Int) ≤ (v1.Dims.length : Int) ∧ ((1 : Nat) : Int) * (v1.Dims.length : Int) ≤ 281474976710656 ∧ (v1.Dims.length : Int) ≤ 9223372036854775807)).bind fun _ =>
   bindE (fun r => r) (loopF (view_Turn_l1 fu v1 perm2) fu (0, 0, ([] : List Int), ([] : List Int), List.replicate (Int.toNat (v1.Dims.length : Int)) (false : Bool), v1.Start, ([] : List Int), ([] : List Int)) : Option (Ex (Int × (List Int) × (List Int) × (List Bool) × Int × (List Int) × (List Int)) (SView × Int))) fun ((m21, m22, m23, m24, m25, m26, m27) : Int × (List Int) × (List Int) × (List Bool) × Int × (List Int) × (List Int)) =>
   cond ((perm2.length : Int) != (m24.length : Int))
    (some ((⟨0, ([] : List Int), ([] : List Int)⟩ : SView), 6))
    (some ((⟨m25, m26, m27⟩ : SView), 0)))
def view_blocks_l1 (fu : Nat) (v1 : SView) : Int × (List Sblock) → Option ((Int × (List Sblock)) ⊕ (List Sblock)) := fun (v2, m3) =>
 cond (decide (v2 < (v1.Dims.length : Int)))
  (((idx v1.Dims v2).bind fun x4 =>
    cond (x4 == 1)
     (some m3)
     ((cond (decide ((m3.length : Int) > 0)) ((idx m3 (IntKind.wrap .i64 ((m3.length : Int) - 1))).bind fun x5 =>
      (m3[(IntKind.wrap .i64 ((m3.length : Int) - 1)).toNat]?).bind fun x6 =>
      (idx v1.Steps v2).bind fun x7 =>
      some (x6.step == (IntKind.wrap .i64 (x4 * x7)))) (some false)).bind fun (v8 : Bool) =>
     (cond v8
       ((idx m3 (IntKind.wrap .i64 ((m3.length : Int) - 1))).bind fun x9 =>
        (idx v1.Steps v2).bind fun x10 =>
        (m3[(IntKind.wrap .i64 ((m3.length : Int) - 1)).toNat]?).bind fun x11 =>
        (idx m3 (IntKind.wrap .i64 ((m3.length : Int) - 1))).bind fun x12 =>
        some (m3.set ((IntKind.wrap .i64 ((m3.length : Int) - 1)).toNat) (⟨IntKind.wrap .i64 (x11.size * x4), x10⟩ : Sblock)))
       ((idx v1.Steps v2).bind fun x13 =>
        (chk (m3.length + [(⟨x4, x13⟩ : Sblock)].length ≤ maxLen ∧ (m3.length + [(⟨x4, x13⟩ : Sblock)].length) * 16 ≤ 140737488355328)).bind fun _ =>
        some (m3 ++ [(⟨x4, x13⟩ : Sblock)]))).bind fun (m14 : List Sblock) =>
     some m14)).bind fun (m15 : List Sblock) =>
   some (.inl (IntKind.wrap .i64 (v2 + 1), m15)))
  (some (.inr m3))
def view_blocks (fu : Nat) (v1 : SView) : Option (List Sblock) :=
 (loopF (view_blocks_l1 fu v1) fu (0, ([] : List Sblock))).bind fun (m16 : List Sblock) =>
 some m16
def view_Reform_y (fu : Nat) (v1 : Int) (v2 : Int) (m3 : Int) (m4 : List Int) (m5 : List Int) (m6 : Int) (m7 : Int) (m8 : List Int) (m9 : List Int) (m10 : List Sblock) : Option (Int × Int × (List Int) × (List Int) × Int × Int × (List Int) × (List Int) × (List Sblock)) :=
 bindE (fun r => r) (cond (v2 == 1)
   (some (.brk (m9, m10, m3, m4, m5, m6, m7)))
   ((idx m10 (IntKind.wrap .i64 ((m10.length : Int) - 1))).bind fun x11 =>
    (m10[(IntKind.wrap .i64 ((m10.length : Int) - 1)).toNat]?).bind fun x12 =>
    (chk (v2 ≠ 0)).bind fun _ =>
    cond ((Int.tmod x12.size v2) != 0)
     (some (.ret (2, 0, ([] : List Int), ([] : List Int), 9, m7, m8, m9, m10)))
     ((m10[(IntKind.wrap .i64 ((m10.length : Int) - 1)).toNat]?).bind fun x13 =>
     (idx m9 v1).bind fun x14 =>
     (amb ((m10[(IntKind.wrap .i64 ((m10.length : Int) - 1)).toNat]?).bind fun x15 =>
      (chk (v2 ≠ 0)).bind fun _ =>
      (m10[(IntKind.wrap .i64 ((m10.length : Int) - 1)).toNat]?).bind fun x16 =>
      (m10[(IntKind.wrap .i64 ((m10.length : Int) - 1)).toNat]?).bind fun x17 =>
      some (m10.set ((IntKind.wrap .i64 ((m10.length : Int) - 1)).toNat) (⟨IntKind.wrap .i64 (Int.tdiv x15.size v2), IntKind.wrap .i64 (x16.step * v2)⟩ : Sblock))) ((m10[(IntKind.wrap .i64 ((m10.length : Int) - 1)).toNat]?).bind fun x15 =>
      (m10[(IntKind.wrap .i64 ((m10.length : Int) - 1)).toNat]?).bind fun x16 =>
      (chk (v2 ≠ 0)).bind fun _ =>
      (m10[(IntKind.wrap .i64 ((m10.length : Int) - 1)).toNat]?).bind fun x17 =>
      some (m10.set ((IntKind.wrap .i64 ((m10.length : Int) - 1)).toNat) (⟨IntKind.wrap .i64 (Int.tdiv x16.size v2), IntKind.wrap .i64 (x15.step * v2)⟩ : Sblock)))).bind fun (m18 : List Sblock) =>
     (m18[(IntKind.wrap .i64 ((m10.length : Int) - 1)).toNat]?).bind fun x19 =>
     (cond (x19.size == 1)
       ((chk ((0 : Int) ≤ (IntKind.wrap .i64 ((m18.length : Int) - 1)) ∧ (IntKind.wrap .i64 ((m18.length : Int) - 1)) ≤ ((m18.length : Nat) : Int))).bind fun _ =>
        (chk ((Int.toNat (IntKind.wrap .i64 ((m18.length : Int) - 1))) ≤ m18.length)).bind fun _ =>
        some (List.take (Int.toNat (IntKind.wrap .i64 ((m18.length : Int) - 1))) m18))
       (some m18)).bind fun (m20 : List Sblock) =>
     some (.brk (m9.set v1.toNat x13.step, m20, m3, m4, m5, m6, m7)))) : Option (Ex ((List Int) × (List Sblock) × Int × (List Int) × (List Int) × Int × Int) (Int × Int × (List Int) × (List Int) × Int × Int × (List Int) × (List Int) × (List Sblock)))) fun ((m21, m22, m23, m24, m25, m26, m27) : (List Int) × (List Sblock) × Int × (List Int) × (List Int) × Int × Int) =>
 some (0, m23, m24, m25, m26, m27, m8, m21, m22)
def slices_Backward_1_2_l1 (fu : Nat) (m2 : List Int) : Int × Int × Int × (List Int) × (List Int) × Int × Int × (List Int) × (List Int) × (List Sblock) → Option ((Int × Int × Int × (List Int) × (List Int) × Int × Int × (List Int) × (List Int) × (List Sblock)) ⊕ (Ex (Int × Int × (List Int) × (List Int) × Int × Int × (List Int) × (List Int) × (List Sblock)) (Int × (List Int) × Int × (List Int) × (List Int) × Int × Int × (List Int) × (List Int) × (List Sblock)))) := fun (i11, m12, m13, m14, m15, m16, m17, m18, m19, m20) =>
 cond (decide (i11 ≥ 0))
  ((idx m2 i11).bind fun x21 =>
   (chk (m12 = 0)).bind fun _ =>
   (view_Reform_y fu i11 x21 m13 m14 m15 m16 m17 m18 m19 m20).bind fun ((r22, r23, r24, r25, r26, r27, r28, r29, r30) : Int × Int × (List Int) × (List Int) × Int × Int × (List Int) × (List Int) × (List Sblock)) =>
   bif Nat.beq (List.length r28) (List.length m18) then
   bif Nat.beq (List.length r29) (List.length m19) then
   cond (r22 == 0)
    (cond (!true)
     (some (.inr (.ret (0, m2, r23, r24, r25, r26, r27, r28, r29, r30))))
     (some (.inl (IntKind.wrap .i64 (i11 - 1), 0, r23, r24, r25, r26, r27, r28, r29, r30))))
    (cond (!false)
     (some (.inr (.ret (r22, m2, r23, r24, r25, r26, r27, r28, r29, r30))))
     (some (.inl (IntKind.wrap .i64 (i11 - 1), r22, r23, r24, r25, r26, r27, r28, r29, r30))))
   else none
   else none)
  (some (.inr (.brk (m12, m13, m14, m15, m16, m17, m18, m19, m20))))
def slices_Backward_1_2 (fu : Nat) (m1 : Int) (m2 : List Int) (m3 : Int) (m4 : List Int) (m5 : List Int) (m6 : Int) (m7 : Int) (m8 : List Int) (m9 : List Int) (m10 : List Sblock) : Option (Int × (List Int) × Int × (List Int) × (List Int) × Int × Int × (List Int) × (List Int) × (List Sblock)) :=
 bindE (fun r => r) (loopF (slices_Backward_1_2_l1 fu m2) fu (IntKind.wrap .i64 ((m2.length : Int) - 1), m1, m3, m4, m5, m6, m7, m8, m9, m10) : Option (Ex (Int × Int × (List Int) × (List Int) × Int × Int × (List Int) × (List Int) × (List Sblock)) (Int × (List Int) × Int × (List Int) × (List Int) × Int × Int × (List Int) × (List Int) × (List Sblock)))) fun ((m31, m32, m33, m34, m35, m36, m37, m38, m39) : Int × Int × (List Int) × (List Int) × Int × Int × (List Int) × (List Int) × (List Sblock)) =>
 some (m31, m2, m32, m33, m34, m35, m36, m37, m38, m39)
def view_done (fu : Nat) (v1 : SView) : Option (SView × Int) :=
 (view_Wrong fu v1).bind fun (r2 : Int) =>
 cond (r2 == 4)
  (some ((⟨0, ([] : List Int), ([] : List Int)⟩ : SView), 5))
  (some (v1, 0))
def view_Reform (fu : Nat) (v1 : SView) (dims2 : List Int) : Option (SView × Int) :=
 (view_Wrong fu v1).bind fun (r3 : Int) =>
 cond (r3 != 0)
  (some ((⟨0, ([] : List Int), ([] : List Int)⟩ : SView), r3))
  ((view_Size fu dims2).bind fun ((r4, r5) : Int × Int) =>
   cond (r5 != 0)
    (some ((⟨0, ([] : List Int), ([] : List Int)⟩ : SView), r5))
    ((view_Size fu v1.Dims).bind fun ((r6, r7) : Int × Int) =>
    cond (r6 != r4)
     (some ((⟨0, ([] : List Int), ([] : List Int)⟩ : SView), 6))
     ((amb ((slices_Clone fu dims2).bind fun (r8 : List Int) =>
       amb2 ((chk ((0 : Int) ≤ (dims2.length : Int) ∧ (dims2.length : Int) ≤ (dims2.length : Int) ∧ ((8 : Nat) : Int) * (dims2.length : Int) ≤ 281474976710656 ∧ (dims2.length : Int) ≤ 9223372036854775807)).bind fun _ =>
       some (v1.Start, r8, List.replicate (Int.toNat (dims2.length : Int)) (0 : Int)))) (amb ((chk ((0 : Int) ≤ (dims2.length : Int) ∧ (dims2.length : Int) ≤ (dims2.length : Int) ∧ ((8 : Nat) : Int) * (dims2.length : Int) ≤ 281474976710656 ∧ (dims2.length : Int) ≤ 9223372036854775807)).bind fun _ =>
       amb2 ((slices_Clone fu dims2).bind fun (r8 : List Int) =>
       some (v1.Start, r8, List.replicate (Int.toNat (dims2.length : Int)) (0 : Int)))) (amb ((slices_Clone fu dims2).bind fun (r8 : List Int) =>
       (chk ((0 : Int) ≤ (dims2.length : Int) ∧ (dims2.length : Int) ≤ (dims2.length : Int) ∧ ((8 : Nat) : Int) * (dims2.length : Int) ≤ 281474976710656 ∧ (dims2.length : Int) ≤ 9223372036854775807)).bind fun _ =>
       some (v1.Start, r8, List.replicate (Int.toNat (dims2.length : Int)) (0 : Int))) ((chk ((0 : Int) ≤ (dims2.length : Int) ∧ (dims2.length : Int) ≤ (dims2.length : Int) ∧ ((8 : Nat) : Int) * (dims2.length : Int) ≤ 281474976710656 ∧ (dims2.length : Int) ≤ 9223372036854775807)).bind fun _ =>
       (slices_Clone fu dims2).bind fun (r8 : List Int) =>
       some (v1.Start, r8, List.replicate (Int.toNat (dims2.length : Int)) (0 : Int)))))).bind fun ((m9, m10, m11) : Int × (List Int) × (List Int)) =>
      cond (r4 == 0)
       (some ((⟨m9, m10, m11⟩ : SView), 0))
       ((view_blocks fu v1).bind fun (r12 : List Sblock) =>
       (slices_Backward fu dims2).bind fun (r13 : List Int) =>
       (slices_Backward_1_2 fu 0 r13 0 ([] : List Int) ([] : List Int) 0 m9 m10 m11 r12).bind fun ((r14, r15, r16, r17, r18, r19, r20, r21, r22, r23) : Int × (List Int) × Int × (List Int) × (List Int) × Int × Int × (List Int) × (List Int) × (List Sblock)) =>
       bif Nat.beq (List.length r21) (List.length m10) then
       bif Nat.beq (List.length r22) (List.length m11) then
       cond (r14 == 0)
        ((view_done fu (⟨r20, r21, r22⟩ : SView)).bind fun ((r24, r25) : SView × Int) =>
         some (r24, r25))
        (cond (r14 == 1)
         ((view_done fu (⟨r20, r21, r22⟩ : SView)).bind fun ((r26, r27) : SView × Int) =>
          some (r26, r27))
         (some ((⟨r16, r17, r18⟩ : SView), r19)))
       else none
       else none))))
def view_Cut_l1 (fu : Nat) (v1 : SView) (lo2 : List Int) (hi3 : List Int) (step4 : List Int) : Int × Int × (List Int) × (List Int) × Int × (List Int) × (List Int) → Option ((Int × Int × (List Int) × (List Int) × Int × (List Int) × (List Int)) ⊕ (Ex (Int × (List Int) × (List Int) × Int × (List Int) × (List Int)) (SView × Int))) := fun (v7, m8, m9, m10, m11, m12, m13) =>
 cond (decide (v7 < (v1.Dims.length : Int)))
  ((idx v1.Dims v7).bind fun x14 =>
   ((idx lo2 v7).bind fun x15 =>
    cond (decide (x15 < 0)) (some true) ((idx lo2 v7).bind fun x16 =>
    (idx hi3 v7).bind fun x17 =>
    cond (decide (x16 > x17)) (some true) ((idx hi3 v7).bind fun x18 =>
    cond (decide (x18 > x14)) (some true) ((idx step4 v7).bind fun x19 =>
    cond (decide (x19 < 1)) (some true) ((idx step4 v7).bind fun x20 =>
    some (decide (x20 > 4096))))))).bind fun (v21 : Bool) =>
   cond v21
    (some (.inr (.ret ((⟨0, ([] : List Int), ([] : List Int)⟩ : SView), 4))))
    ((idx lo2 v7).bind fun x22 =>
    (idx v1.Steps v7).bind fun x23 =>
    ((idx hi3 v7).bind fun x24 =>
     (idx lo2 v7).bind fun x25 =>
     (idx step4 v7).bind fun x26 =>
     (idx step4 v7).bind fun x27 =>
     (chk (x27 ≠ 0)).bind fun _ =>
     amb2 ((chk (m12.length + [IntKind.wrap .i64 (Int.tdiv (IntKind.wrap .i64 ((IntKind.wrap .i64 ((IntKind.wrap .i64 (x24 - x25)) + x26)) - 1)) x27)].length ≤ maxLen ∧ (m12.length + [IntKind.wrap .i64 (Int.tdiv (IntKind.wrap .i64 ((IntKind.wrap .i64 ((IntKind.wrap .i64 (x24 - x25)) + x26)) - 1)) x27)].length) * 8 ≤ 140737488355328)).bind fun _ =>
     some (m12 ++ [IntKind.wrap .i64 (Int.tdiv (IntKind.wrap .i64 ((IntKind.wrap .i64 ((IntKind.wrap .i64 (x24 - x25)) + x26)) - 1)) x27)], IntKind.wrap .i64 (m11 + (IntKind.wrap .i64 (x22 * x23)))))).bind fun ((m28, m29) : (List Int) × Int) =>
    ((idx v1.Steps v7).bind fun x30 =>
     (idx step4 v7).bind fun x31 =>
     amb2 ((chk (m13.length + [IntKind.wrap .i64 (x30 * x31)].length ≤ maxLen ∧ (m13.length + [IntKind.wrap .i64 (x30 * x31)].length) * 8 ≤ 140737488355328)).bind fun _ =>
     some (m13 ++ [IntKind.wrap .i64 (x30 * x31)], m29))).bind fun ((m32, m33) : (List Int) × Int) =>
    some (.inl (IntKind.wrap .i64 (v7 + 1), m8, m9, m10, m33, m28, m32))))
  (some (.inr (.brk (m8, m9, m10, m11, m12, m13))))
def view_Cut (fu : Nat) (v1 : SView) (lo2 : List Int) (hi3 : List Int) (step4 : List Int) : Option (SView × Int) :=
 (view_Wrong fu v1).bind fun (r5 : Int) =>
 cond (r5 != 0)
  (some ((⟨0, ([] : List Int), ([] : List Int)⟩ : SView), r5))
  ((cond ((lo2.length : Int) != (v1.Dims.length : Int)) (some true) (cond ((hi3.length : Int) != (v1.Dims.length : Int)) (some true) (some ((step4.length : Int) != (v1.Dims.length : Int))))).bind fun (v6 : Bool) =>
   cond v6
    (some ((⟨0, ([] : List Int), ([] : List Int)⟩ : SView), 6))
    (bindE (fun r => r) (loopF (view_Cut_l1 fu v1 lo2 hi3 step4) fu (0, 0, ([] : List Int), ([] : List Int), v1.Start, ([] : List Int), ([] : List Int)) : Option (Ex (Int × (List Int) × (List Int) × Int × (List Int) × (List Int)) (SView × Int))) fun ((m34, m35, m36, m37, m38, m39) : Int × (List Int) × (List Int) × Int × (List Int) × (List Int)) =>
    (view_done fu (⟨m37, m38, m39⟩ : SView)).bind fun ((r40, r41) : SView × Int) =>
    some (r40, r41)))
def view_Flip_l1 (fu : Nat) (at2 : List Int) (m8 : List Int) : Int × Int × (List Int) → Option ((Int × Int × (List Int)) ⊕ (Int × (List Int))) := fun (v10, m11, m12) =>
 cond (decide (v10 < (at2.length : Int)))
  ((idx at2 v10).bind fun x13 =>
   (amb (amb ((idx m8 x13).bind fun x14 =>
    amb ((idx m12 x13).bind fun x15 =>
    some (IntKind.wrap .i64 (m11 + (IntKind.wrap .i64 ((if (IntKind.wrap .i64 (x14 - 1)) > 0 then (IntKind.wrap .i64 (x14 - 1)) else 0) * x15))))) ((idx m12 x13).bind fun x15 =>
    amb2 (some (IntKind.wrap .i64 (m11 + (IntKind.wrap .i64 ((if (IntKind.wrap .i64 (x14 - 1)) > 0 then (IntKind.wrap .i64 (x14 - 1)) else 0) * x15))))))) ((idx m12 x13).bind fun x14 =>
    amb ((idx m8 x13).bind fun x15 =>
    amb2 (some (IntKind.wrap .i64 (m11 + (IntKind.wrap .i64 ((if (IntKind.wrap .i64 (x15 - 1)) > 0 then (IntKind.wrap .i64 (x15 - 1)) else 0) * x14)))))) ((idx m8 x13).bind fun x15 =>
    some (IntKind.wrap .i64 (m11 + (IntKind.wrap .i64 ((if (IntKind.wrap .i64 (x15 - 1)) > 0 then (IntKind.wrap .i64 (x15 - 1)) else 0) * x14))))))) (amb ((idx m8 x13).bind fun x14 =>
    amb (amb ((idx m12 x13).bind fun x15 =>
    some (IntKind.wrap .i64 (m11 + (IntKind.wrap .i64 ((if (IntKind.wrap .i64 (x14 - 1)) > 0 then (IntKind.wrap .i64 (x14 - 1)) else 0) * x15))))) ((idx m12 x13).bind fun x15 =>
    amb2 (some (IntKind.wrap .i64 (m11 + (IntKind.wrap .i64 ((if (IntKind.wrap .i64 (x14 - 1)) > 0 then (IntKind.wrap .i64 (x14 - 1)) else 0) * x15))))))) (amb (amb ((idx m12 x13).bind fun x15 =>
    some (IntKind.wrap .i64 (m11 + (IntKind.wrap .i64 ((if (IntKind.wrap .i64 (x14 - 1)) > 0 then (IntKind.wrap .i64 (x14 - 1)) else 0) * x15))))) ((idx m12 x13).bind fun x15 =>
    amb2 (some (IntKind.wrap .i64 (m11 + (IntKind.wrap .i64 ((if (IntKind.wrap .i64 (x14 - 1)) > 0 then (IntKind.wrap .i64 (x14 - 1)) else 0) * x15))))))) ((idx m12 x13).bind fun x15 =>
    amb3 (amb2 (some (IntKind.wrap .i64 (m11 + (IntKind.wrap .i64 ((if (IntKind.wrap .i64 (x14 - 1)) > 0 then (IntKind.wrap .i64 (x14 - 1)) else 0) * x15))))))))) ((idx m12 x13).bind fun x14 =>
    amb (amb ((idx m8 x13).bind fun x15 =>
    amb2 (some (IntKind.wrap .i64 (m11 + (IntKind.wrap .i64 ((if (IntKind.wrap .i64 (x15 - 1)) > 0 then (IntKind.wrap .i64 (x15 - 1)) else 0) * x14)))))) ((idx m8 x13).bind fun x15 =>
    some (IntKind.wrap .i64 (m11 + (IntKind.wrap .i64 ((if (IntKind.wrap .i64 (x15 - 1)) > 0 then (IntKind.wrap .i64 (x15 - 1)) else 0) * x14)))))) (amb ((idx m8 x13).bind fun x15 =>
    amb3 (amb2 (some (IntKind.wrap .i64 (m11 + (IntKind.wrap .i64 ((if (IntKind.wrap .i64 (x15 - 1)) > 0 then (IntKind.wrap .i64 (x15 - 1)) else 0) * x14))))))) (amb ((idx m8 x13).bind fun x15 =>
    some (IntKind.wrap .i64 (m11 + (IntKind.wrap .i64 ((if (IntKind.wrap .i64 (x15 - 1)) > 0 then (IntKind.wrap .i64 (x15 - 1)) else 0) * x14))))) ((idx m8 x13).bind fun x15 =>
    amb2 (some (IntKind.wrap .i64 (m11 + (IntKind.wrap .i64 ((if (IntKind.wrap .i64 (x15 - 1)) > 0 then (IntKind.wrap .i64 (x15 - 1)) else 0) * x14))))))))))).bind fun (m16 : Int) =>
   (idx m12 x13).bind fun x17 =>
   (idx m12 x13).bind fun x18 =>
   some (.inl (IntKind.wrap .i64 (v10 + 1), m16, m12.set x13.toNat (IntKind.wrap .i64 (0 - x17)))))
  (some (.inr (m11, m12)))
def view_Flip (fu : Nat) (v1 : SView) (at2 : List Int) : Option (SView × Int) :=
 (view_Wrong fu v1).bind fun (r3 : Int) =>
 cond (r3 != 0)
  (some ((⟨0, ([] : List Int), ([] : List Int)⟩ : SView), r3))
  ((view_rising fu at2 (v1.Dims.length : Int)).bind fun (r4 : Bool) =>
   cond (!r4)
    (some ((⟨0, ([] : List Int), ([] : List Int)⟩ : SView), 6))
    ((amb ((slices_Clone fu v1.Dims).bind fun (r5 : List Int) =>
     amb2 ((slices_Clone fu v1.Steps).bind fun (r6 : List Int) =>
     some (v1.Start, r5, r6))) ((slices_Clone fu v1.Dims).bind fun (r5 : List Int) =>
     (slices_Clone fu v1.Steps).bind fun (r6 : List Int) =>
     some (v1.Start, r5, r6))).bind fun ((m7, m8, m9) : Int × (List Int) × (List Int)) =>
    (loopF (view_Flip_l1 fu at2 m8) fu (0, m7, m9)).bind fun ((m19, m20) : Int × (List Int)) =>
    (view_done fu (⟨m19, m8, m20⟩ : SView)).bind fun ((r21, r22) : SView × Int) =>
    some (r21, r22)))
def array_look (fu : Nat) (op1 : SOp) (dims2 : List Int) : Option (SView × Int) :=
 (view_Whole fu dims2).bind fun ((r3, r4) : SView × Int) =>
 cond (r4 != 0)
  (some (r3, r4))
  (cond (op1.Kind == 9)
    ((view_Spread fu r3 op1.Dims op1.At).bind fun ((r5, r6) : SView × Int) =>
    some (r5, r6))
    (cond (op1.Kind == 11)
     ((view_Turn fu r3 op1.At).bind fun ((r7, r8) : SView × Int) =>
      some (r7, r8))
     (cond (op1.Kind == 12)
       ((view_Reform fu r3 op1.Dims).bind fun ((r9, r10) : SView × Int) =>
       some (r9, r10))
       (cond (op1.Kind == 13)
        ((view_Cut fu r3 op1.Lo op1.Hi op1.Step).bind fun ((r11, r12) : SView × Int) =>
         some (r11, r12))
        ((view_Flip fu r3 op1.At).bind fun ((r13, r14) : SView × Int) =>
         some (r13, r14))))))
def array_Dims_l1 (fu : Nat) (args2 : List (List Int)) : Int → Option (Int ⊕ (Ex Unit (Ex ((List Int) × Int) (Ex ((List Int) × Int) ((List Int) × Int))))) := fun v10 =>
 cond (decide (v10 < ((lpart args2 1 (args2.length : Int)).length : Int)))
  ((idx (lpart args2 1 (args2.length : Int)) v10).bind fun x11 =>
   (idx args2 0).bind fun x12 =>
   (slices_Equal fu x11 x12).bind fun (r13 : Bool) =>
   cond (!r13)
    (some (.inr (.ret (.ret (.ret (([] : List Int), 6))))))
    (some (.inl (IntKind.wrap .i64 (v10 + 1)))))
  (some (.inr (.brk ())))
def array_Dims (fu : Nat) (op1 : SOp) (args2 : List (List Int)) : Option ((List Int) × Int) :=
 (array_fits fu op1 args2).bind fun (r3 : Int) =>
 cond (r3 != 0)
  (some (([] : List Int), r3))
  (bindE (fun r => r) (cond (op1.Kind == 2)
     ((slices_Clone fu op1.Dims).bind fun (r4 : List Int) =>
     some (.brk (r4, 0)))
     ((cond (op1.Kind == 3)
       (some (op1.Kind == 3))
       ((cond (op1.Kind == 4)
          (some (op1.Kind == 4))
          ((cond (op1.Kind == 5)
            (some (op1.Kind == 5))
            ((cond (op1.Kind == 6)
               (some (op1.Kind == 6))
               ((cond (op1.Kind == 7)
                 (some (op1.Kind == 7))
                 (some (op1.Kind == 8))).bind fun (v5 : Bool) =>
               some v5)).bind fun (v6 : Bool) =>
             some v6)).bind fun (v7 : Bool) =>
          some v7)).bind fun (v8 : Bool) =>
        some v8)).bind fun (v9 : Bool) =>
     bindE (fun r => r) (cond v9
       ((chk ((0 : Int) ≤ 1 ∧ 1 ≤ (args2.length : Int))).bind fun _ =>
        bindE (fun r => r) (loopF (array_Dims_l1 fu args2) fu 0 : Option (Ex Unit (Ex ((List Int) × Int) (Ex ((List Int) × Int) ((List Int) × Int))))) fun (_ : Unit) =>
        (idx args2 0).bind fun x14 =>
        (slices_Clone fu x14).bind fun (r15 : List Int) =>
        some (.brk (r15, 0)))
       (bindE (fun r => r) (cond (op1.Kind == 10)
          ((idx args2 0).bind fun x16 =>
          (array_summed fu op1.At x16).bind fun ((r17, r18) : (List Int) × Int) =>
          some (.brk (r17, r18)))
          (bindE (fun r => r) (cond (op1.Kind == 14)
            ((idx args2 0).bind fun x19 =>
             (array_padded fu op1 x19).bind fun ((r20, r21) : (List Int) × Int) =>
             some (.brk (r20, r21)))
            (bindE (fun r => r) (cond (op1.Kind == 16)
               ((idx args2 0).bind fun x22 =>
               (idx args2 1).bind fun x23 =>
               (array_pair fu op1 x22 x23).bind fun ((r24, r25) : Spairing × Int) =>
               (cond (r25 == 0)
                 (some r24.dims)
                 (some ([] : List Int))).bind fun (d26 : List Int) =>
               some (.brk (r25, d26)))
               (bindE (fun r => r) (cond (op1.Kind == 17)
                 ((array_joined fu op1.At args2).bind fun ((r27, r28) : (List Int) × Int) =>
                  some (.brk (r27, r28)))
                 (bindE (fun r => r) (cond (op1.Kind == 18)
                    ((idx args2 0).bind fun x29 =>
                    cond ((x29.length : Int) == 0)
                     (some (.ret (.ret (.ret (.ret (.ret (.ret (.ret (([] : List Int), 6)))))))))
                     ((idx args2 1).bind fun x30 =>
                      (idx args2 0).bind fun x31 =>
                      (chk ((0 : Int) ≤ 1 ∧ 1 ≤ (x31.length : Int))).bind fun _ =>
                      (Go.Proofs.YtcbaolgciiieeaaGreat.F.slices_Concat fu [x30, lpart x31 1 (x31.length : Int)]).bind fun (r32 : List Int) =>
                      some (.brk (r32, 0))))
                    (bindE (fun r => r) (cond (op1.Kind == 19)
                      ((idx args2 1).bind fun x33 =>
                       (cond ((op1.Dims.length : Int) != 1) (some true) ((idx args2 0).bind fun x34 =>
                        cond (decide ((x34.length : Int) < (x33.length : Int))) (some true) ((idx args2 0).bind fun x35 =>
                        (chk ((0 : Int) ≤ (x33.length : Int) ∧ (x33.length : Int) ≤ (x35.length : Int))).bind fun _ =>
                        (idx args2 1).bind fun x36 =>
                        (slices_Equal fu (lpart x35 0 (x33.length : Int)) x36).bind fun (r37 : Bool) =>
                        some (!r37)))).bind fun (v38 : Bool) =>
                       cond v38
                        (some (.ret (.ret (.ret (.ret (.ret (.ret (.ret (.ret (([] : List Int), 6))))))))))
                        ((idx args2 0).bind fun x39 =>
                        (chk ((0 : Int) ≤ (x33.length : Int) ∧ (x33.length : Int) ≤ (x39.length : Int))).bind fun _ =>
                        (Go.Proofs.YtcbaolgciiieeaaGreat.F.slices_Concat fu [op1.Dims, lpart x39 (x33.length : Int) (x39.length : Int)]).bind fun (r40 : List Int) =>
                        some (.brk (r40, 0))))
                      ((idx args2 0).bind fun x41 =>
                       (array_look fu op1 x41).bind fun ((r42, r43) : SView × Int) =>
                       some (.brk (r42.Dims, r43))) : Option (Ex ((List Int) × Int) (Ex ((List Int) × Int) (Ex ((List Int) × Int) (Ex (Int × (List Int)) (Ex ((List Int) × Int) (Ex ((List Int) × Int) (Ex ((List Int) × Int) (Ex ((List Int) × Int) ((List Int) × Int)))))))))) fun ((d44, err45) : (List Int) × Int) =>
                    some (.brk (d44, err45))) : Option (Ex ((List Int) × Int) (Ex ((List Int) × Int) (Ex (Int × (List Int)) (Ex ((List Int) × Int) (Ex ((List Int) × Int) (Ex ((List Int) × Int) (Ex ((List Int) × Int) ((List Int) × Int))))))))) fun ((d46, err47) : (List Int) × Int) =>
                  some (.brk (d46, err47))) : Option (Ex ((List Int) × Int) (Ex (Int × (List Int)) (Ex ((List Int) × Int) (Ex ((List Int) × Int) (Ex ((List Int) × Int) (Ex ((List Int) × Int) ((List Int) × Int)))))))) fun ((d48, err49) : (List Int) × Int) =>
               some (.brk (err49, d48))) : Option (Ex (Int × (List Int)) (Ex ((List Int) × Int) (Ex ((List Int) × Int) (Ex ((List Int) × Int) (Ex ((List Int) × Int) ((List Int) × Int))))))) fun ((err50, d51) : Int × (List Int)) =>
             some (.brk (d51, err50))) : Option (Ex ((List Int) × Int) (Ex ((List Int) × Int) (Ex ((List Int) × Int) (Ex ((List Int) × Int) ((List Int) × Int)))))) fun ((d52, err53) : (List Int) × Int) =>
          some (.brk (d52, err53))) : Option (Ex ((List Int) × Int) (Ex ((List Int) × Int) (Ex ((List Int) × Int) ((List Int) × Int))))) fun ((d54, err55) : (List Int) × Int) =>
        some (.brk (d54, err55))) : Option (Ex ((List Int) × Int) (Ex ((List Int) × Int) ((List Int) × Int)))) fun ((d56, err57) : (List Int) × Int) =>
     some (.brk (d56, err57))) : Option (Ex ((List Int) × Int) ((List Int) × Int))) fun ((d58, err59) : (List Int) × Int) =>
   cond (err59 != 0)
    (some (([] : List Int), err59))
    ((view_Size fu d58).bind fun ((r60, r61) : Int × Int) =>
    cond (r61 != 0)
     (some (([] : List Int), r61))
     (some (d58, 0))))
def adjointref2_Right (fu : Nat) (op1 : SOp) (n2 : Int) : Option (Int) :=
 bindE (fun r => r) (cond (op1.Kind == 2)
   (cond (n2 != 0)
     (some (.ret 2))
     (some (.brk ())))
   ((cond (op1.Kind == 3)
      (some (op1.Kind == 3))
      ((cond (op1.Kind == 4)
        (some (op1.Kind == 4))
        ((cond (op1.Kind == 5)
           (some (op1.Kind == 5))
           ((cond (op1.Kind == 6)
             (some (op1.Kind == 6))
             ((cond (op1.Kind == 7)
                (some (op1.Kind == 7))
                ((cond (op1.Kind == 16)
                  (some (op1.Kind == 16))
                  ((cond (op1.Kind == 18)
                     (some (op1.Kind == 18))
                     (some (op1.Kind == 19))).bind fun (v3 : Bool) =>
                   some v3)).bind fun (v4 : Bool) =>
                some v4)).bind fun (v5 : Bool) =>
              some v5)).bind fun (v6 : Bool) =>
           some v6)).bind fun (v7 : Bool) =>
         some v7)).bind fun (v8 : Bool) =>
      some v8)).bind fun (v9 : Bool) =>
    bindE (fun r => r) (cond v9
      (cond (n2 != 2)
       (some (.ret (.ret 2)))
       (some (.brk ())))
      (bindE (fun r => r) (cond (op1.Kind == 8)
        (cond (n2 != 3)
          (some (.ret (.ret (.ret 2))))
          (some (.brk ())))
        ((cond (op1.Kind == 9)
           (some (op1.Kind == 9))
           ((cond (op1.Kind == 10)
             (some (op1.Kind == 10))
             ((cond (op1.Kind == 11)
                (some (op1.Kind == 11))
                ((cond (op1.Kind == 12)
                  (some (op1.Kind == 12))
                  ((cond (op1.Kind == 13)
                     (some (op1.Kind == 13))
                     ((cond (op1.Kind == 14)
                       (some (op1.Kind == 14))
                       (some (op1.Kind == 15))).bind fun (v10 : Bool) =>
                     some v10)).bind fun (v11 : Bool) =>
                   some v11)).bind fun (v12 : Bool) =>
                some v12)).bind fun (v13 : Bool) =>
              some v13)).bind fun (v14 : Bool) =>
           some v14)).bind fun (v15 : Bool) =>
         bindE (fun r => r) (cond v15
           (cond (n2 != 1)
            (some (.ret (.ret (.ret (.ret 2)))))
            (some (.brk ())))
           (cond (op1.Kind == 17)
            (cond (n2 == 0)
              (some (.ret (.ret (.ret (.ret 2)))))
              (some (.brk ())))
            (some (.ret (.ret (.ret (.ret 1)))))) : Option (Ex Unit (Ex Unit (Ex Unit (Ex Unit Int))))) fun (_ : Unit) =>
         some (.brk ())) : Option (Ex Unit (Ex Unit (Ex Unit Int)))) fun (_ : Unit) =>
      some (.brk ())) : Option (Ex Unit (Ex Unit Int))) fun (_ : Unit) =>
    some (.brk ())) : Option (Ex Unit Int)) fun (_ : Unit) =>
 some 0
def adjointref1_Size_l1 (fu : Nat) (dims1 : List Int) : Bool × Int → Option ((Bool × Int) ⊕ (Ex Bool (Int × Int))) := fun (none2, v3) =>
 cond (decide (v3 < (dims1.length : Int)))
  ((idx dims1 v3).bind fun x4 =>
   (cond (decide (x4 < 0)) (some true) (some (decide (x4 > 4096)))).bind fun (v5 : Bool) =>
   cond v5
    (some (.inr (.ret (0, 4))))
    ((cond (x4 == 0)
      (some true)
      (some none2)).bind fun (none6 : Bool) =>
    some (.inl (none6, IntKind.wrap .i64 (v3 + 1)))))
  (some (.inr (.brk none2)))
def adjointref1_Size_l2 (fu : Nat) (dims1 : List Int) : Int × Int → Option ((Int × Int) ⊕ (Ex Int (Int × Int))) := fun (n8, v9) =>
 cond (decide (v9 < (dims1.length : Int)))
  ((idx dims1 v9).bind fun x10 =>
   cond (decide ((IntKind.wrap .i64 (n8 * x10)) > 65536))
    (some (.inr (.ret (0, 5))))
    (some (.inl (IntKind.wrap .i64 (n8 * x10), IntKind.wrap .i64 (v9 + 1)))))
  (some (.inr (.brk n8)))
def adjointref1_Size (fu : Nat) (dims1 : List Int) : Option (Int × Int) :=
 cond (decide ((dims1.length : Int) > 6))
  (some (0, 3))
  (bindE (fun r => r) (loopF (adjointref1_Size_l1 fu dims1) fu (false, 0) : Option (Ex Bool (Int × Int))) fun (none7 : Bool) =>
   cond none7
    (some (0, 0))
    (bindE (fun r => r) (loopF (adjointref1_Size_l2 fu dims1) fu (1, 0) : Option (Ex Int (Int × Int))) fun (n11 : Int) =>
    some (n11, 0)))
def adjointref2_SameList_l1 (fu : Nat) (a1 : List Int) (b2 : List Int) : Int → Option (Int ⊕ (Ex Unit Bool)) := fun v3 =>
 cond (decide (v3 < (a1.length : Int)))
  ((idx a1 v3).bind fun x4 =>
   (idx b2 v3).bind fun x5 =>
   cond (x4 != x5)
    (some (.inr (.ret false)))
    (some (.inl (IntKind.wrap .i64 (v3 + 1)))))
  (some (.inr (.brk ())))
def adjointref2_SameList (fu : Nat) (a1 : List Int) (b2 : List Int) : Option (Bool) :=
 cond ((a1.length : Int) != (b2.length : Int))
  (some false)
  (bindE (fun r => r) (loopF (adjointref2_SameList_l1 fu a1 b2) fu 0 : Option (Ex Unit Bool)) fun (_ : Unit) =>
   some true)
def adjointref1_Rising_l1 (fu : Nat) (at1 : List Int) (rank2 : Int) : Int → Option (Int ⊕ (Ex Unit Bool)) := fun v3 =>
 cond (decide (v3 < (at1.length : Int)))
  ((idx at1 v3).bind fun x4 =>
   (cond (decide (x4 < 0)) (some true) (cond (decide (x4 ≥ rank2)) (some true) (cond (decide (v3 > 0)) ((idx at1 (IntKind.wrap .i64 (v3 - 1))).bind fun x5 =>
    some (decide (x4 ≤ x5))) (some false)))).bind fun (v6 : Bool) =>
   cond v6
    (some (.inr (.ret false)))
    (some (.inl (IntKind.wrap .i64 (v3 + 1)))))
  (some (.inr (.brk ())))
def adjointref1_Rising (fu : Nat) (at1 : List Int) (rank2 : Int) : Option (Bool) :=
 bindE (fun r => r) (loopF (adjointref1_Rising_l1 fu at1 rank2) fu 0 : Option (Ex Unit Bool)) fun (_ : Unit) =>
 some true
def adjointref2_has_l1 (fu : Nat) (l1 : List Int) (n2 : Int) : Int → Option (Int ⊕ (Ex Unit Bool)) := fun v3 =>
 cond (decide (v3 < (l1.length : Int)))
  ((idx l1 v3).bind fun x4 =>
   cond (x4 == n2)
    (some (.inr (.ret true)))
    (some (.inl (IntKind.wrap .i64 (v3 + 1)))))
  (some (.inr (.brk ())))
def adjointref2_has (fu : Nat) (l1 : List Int) (n2 : Int) : Option (Bool) :=
 bindE (fun r => r) (loopF (adjointref2_has_l1 fu l1 n2) fu 0 : Option (Ex Unit Bool)) fun (_ : Unit) =>
 some false
def adjointref2_Free_l1 (fu : Nat) (dims1 : List Int) (in2 : List Int) : Int × (List Int) → Option ((Int × (List Int)) ⊕ (List Int)) := fun (v3, m4) =>
 cond (decide (v3 < (dims1.length : Int)))
  ((adjointref2_has fu in2 v3).bind fun (r5 : Bool) =>
   (cond (!r5)
     ((chk (m4.length + [v3].length ≤ maxLen ∧ (m4.length + [v3].length) * 8 ≤ 140737488355328)).bind fun _ =>
     some (m4 ++ [v3]))
     (some m4)).bind fun (m6 : List Int) =>
   some (.inl (IntKind.wrap .i64 (v3 + 1), m6)))
  (some (.inr m4))
def adjointref2_Free (fu : Nat) (dims1 : List Int) (in2 : List Int) : Option (List Int) :=
 (loopF (adjointref2_Free_l1 fu dims1 in2) fu (0, ([] : List Int))).bind fun (m7 : List Int) =>
 some m7
def adjointref2_chosen_l1 (fu : Nat) (dims1 : List Int) (at2 : List Int) : Int × (List Int) → Option ((Int × (List Int)) ⊕ (List Int)) := fun (v3, m4) =>
 cond (decide (v3 < (at2.length : Int)))
  ((idx at2 v3).bind fun x5 =>
   (idx dims1 x5).bind fun x6 =>
   (chk (m4.length + [x6].length ≤ maxLen ∧ (m4.length + [x6].length) * 8 ≤ 140737488355328)).bind fun _ =>
   some (.inl (IntKind.wrap .i64 (v3 + 1), m4 ++ [x6])))
  (some (.inr m4))
def adjointref2_chosen (fu : Nat) (dims1 : List Int) (at2 : List Int) : Option (List Int) :=
 (loopF (adjointref2_chosen_l1 fu dims1 at2) fu (0, ([] : List Int))).bind fun (m7 : List Int) =>
 some m7
def adjointref2_padDims_l1 (fu : Nat) (op1 : SOp) (d2 : List Int) : Int × (List Int) → Option ((Int × (List Int)) ⊕ (Ex (List Int) ((List Int) × Int))) := fun (v4, m5) =>
 cond (decide (v4 < (d2.length : Int)))
  (((idx op1.Lo v4).bind fun x6 =>
    cond (decide (x6 < 0)) (some true) ((idx op1.Lo v4).bind fun x7 =>
    cond (decide (x7 > 4096)) (some true) ((idx op1.Hi v4).bind fun x8 =>
    cond (decide (x8 < 0)) (some true) ((idx op1.Hi v4).bind fun x9 =>
    cond (decide (x9 > 4096)) (some true) ((idx op1.Step v4).bind fun x10 =>
    cond (decide (x10 < 1)) (some true) ((idx op1.Step v4).bind fun x11 =>
    some (decide (x11 > 4096)))))))).bind fun (v12 : Bool) =>
   cond v12
    (some (.inr (.ret (([] : List Int), 4))))
    ((idx d2 v4).bind fun x13 =>
    (cond (decide (x13 > 0))
      ((idx d2 v4).bind fun x14 =>
       (idx op1.Step v4).bind fun x15 =>
       some (IntKind.wrap .i64 ((IntKind.wrap .i64 ((IntKind.wrap .i64 (x14 - 1)) * x15)) + 1)))
      (some 0)).bind fun (n16 : Int) =>
    (idx op1.Lo v4).bind fun x17 =>
    (idx op1.Hi v4).bind fun x18 =>
    (chk (m5.length + [IntKind.wrap .i64 ((IntKind.wrap .i64 (x17 + n16)) + x18)].length ≤ maxLen ∧ (m5.length + [IntKind.wrap .i64 ((IntKind.wrap .i64 (x17 + n16)) + x18)].length) * 8 ≤ 140737488355328)).bind fun _ =>
    some (.inl (IntKind.wrap .i64 (v4 + 1), m5 ++ [IntKind.wrap .i64 ((IntKind.wrap .i64 (x17 + n16)) + x18)]))))
  (some (.inr (.brk m5)))
def adjointref2_padDims (fu : Nat) (op1 : SOp) (d2 : List Int) : Option ((List Int) × Int) :=
 (cond ((op1.Lo.length : Int) != (d2.length : Int)) (some true) (cond ((op1.Hi.length : Int) != (d2.length : Int)) (some true) (some ((op1.Step.length : Int) != (d2.length : Int))))).bind fun (v3 : Bool) =>
 cond v3
  (some (([] : List Int), 6))
  (bindE (fun r => r) (loopF (adjointref2_padDims_l1 fu op1 d2) fu (0, ([] : List Int)) : Option (Ex (List Int) ((List Int) × Int))) fun (m19 : List Int) =>
   some (m19, 0))
def adjointref2_both (fu : Nat) (a1 : List Int) (b2 : List Int) : Option (List Int) :=
 (chk (([] : List Int).length + a1.length ≤ maxLen ∧ (([] : List Int).length + a1.length) * 8 ≤ 140737488355328)).bind fun _ =>
 (chk ((([] : List Int) ++ a1).length + b2.length ≤ maxLen ∧ ((([] : List Int) ++ a1).length + b2.length) * 8 ≤ 140737488355328)).bind fun _ =>
 some ((([] : List Int) ++ a1) ++ b2)
def adjointref2_once_l1 (fu : Nat) (l1 : List Int) (rank2 : Int) : Int → Option (Int ⊕ (Ex Unit Bool)) := fun v3 =>
 cond (decide (v3 < (l1.length : Int)))
  ((idx l1 v3).bind fun x4 =>
   (cond (decide (x4 < 0)) (some true) (cond (decide (x4 ≥ rank2)) (some true) ((chk ((0 : Int) ≤ v3 ∧ v3 ≤ (l1.length : Int))).bind fun _ =>
    (adjointref2_has fu (lpart l1 0 v3) x4).bind fun (r5 : Bool) =>
    some r5))).bind fun (v6 : Bool) =>
   cond v6
    (some (.inr (.ret false)))
    (some (.inl (IntKind.wrap .i64 (v3 + 1)))))
  (some (.inr (.brk ())))
def adjointref2_once (fu : Nat) (l1 : List Int) (rank2 : Int) : Option (Bool) :=
 bindE (fun r => r) (loopF (adjointref2_once_l1 fu l1 rank2) fu 0 : Option (Ex Unit Bool)) fun (_ : Unit) =>
 some true
def adjointref2_dotDims (fu : Nat) (op1 : SOp) (a2 : List Int) (b3 : List Int) : Option ((List Int) × Int) :=
 (cond ((op1.At.length : Int) != (op1.Step.length : Int)) (some true) (some ((op1.Lo.length : Int) != (op1.Hi.length : Int)))).bind fun (v4 : Bool) =>
 cond v4
  (some (([] : List Int), 6))
  (((adjointref2_both fu op1.At op1.Lo).bind fun (r5 : List Int) =>
    (adjointref2_once fu r5 (a2.length : Int)).bind fun (r6 : Bool) =>
    cond (!r6) (some true) ((adjointref2_both fu op1.Step op1.Hi).bind fun (r7 : List Int) =>
    (adjointref2_once fu r7 (b3.length : Int)).bind fun (r8 : Bool) =>
    some (!r8))).bind fun (v9 : Bool) =>
   cond v9
    (some (([] : List Int), 6))
    (((adjointref2_chosen fu a2 op1.At).bind fun (r10 : List Int) =>
     (adjointref2_chosen fu b3 op1.Step).bind fun (r11 : List Int) =>
     (adjointref2_SameList fu r10 r11).bind fun (r12 : Bool) =>
     cond (!r12) (some true) (amb (amb2 ((adjointref2_chosen fu a2 op1.Lo).bind fun (r13 : List Int) =>
     (adjointref2_chosen fu b3 op1.Hi).bind fun (r14 : List Int) =>
     (adjointref2_SameList fu r13 r14).bind fun (r15 : Bool) =>
     some (!r15))) ((adjointref2_chosen fu a2 op1.Lo).bind fun (r13 : List Int) =>
     (adjointref2_chosen fu b3 op1.Hi).bind fun (r14 : List Int) =>
     (adjointref2_SameList fu r13 r14).bind fun (r15 : Bool) =>
     some (!r15)))).bind fun (v16 : Bool) =>
    cond v16
     (some (([] : List Int), 6))
     ((adjointref2_both fu op1.At op1.Lo).bind fun (r17 : List Int) =>
      (adjointref2_Free fu a2 r17).bind fun (r18 : List Int) =>
      (adjointref2_chosen fu a2 r18).bind fun (r19 : List Int) =>
      (adjointref2_both fu op1.Step op1.Hi).bind fun (r20 : List Int) =>
      (adjointref2_Free fu b3 r20).bind fun (r21 : List Int) =>
      (adjointref2_chosen fu b3 r21).bind fun (r22 : List Int) =>
      (adjointref2_chosen fu a2 op1.Lo).bind fun (r23 : List Int) =>
      (adjointref2_both fu r23 r19).bind fun (r24 : List Int) =>
      (adjointref2_both fu r24 r22).bind fun (r25 : List Int) =>
      some (r25, 0))))
def adjointref2_joinDims_l1 (fu : Nat) (op1 : SOp) (x10 : List Int) : Int × (List Int) → Option ((Int × (List Int)) ⊕ (Ex (List Int) ((Int × (List Int)) ⊕ (Ex (List Int) ((List Int) × Int))))) := fun (v11, m12) =>
 cond (decide (v11 < (x10.length : Int)))
  ((idx op1.At 0).bind fun x13 =>
   bindE (fun r => r) (cond (v11 == x13)
     ((idx m12 v11).bind fun x14 =>
     (idx x10 v11).bind fun x15 =>
     (idx m12 v11).bind fun x16 =>
     some (.brk (m12.set v11.toNat (IntKind.wrap .i64 (x14 + x15)))))
     ((idx x10 v11).bind fun x17 =>
     (idx m12 v11).bind fun x18 =>
     cond (x17 != x18)
      (some (.ret (.inr (.ret (.inr (.ret (([] : List Int), 6)))))))
      (some (.brk m12))) : Option (Ex (List Int) ((Int × (List Int)) ⊕ (Ex (List Int) ((Int × (List Int)) ⊕ (Ex (List Int) ((List Int) × Int))))))) fun (m19 : List Int) =>
   some (.inl (IntKind.wrap .i64 (v11 + 1), m19)))
  (some (.inr (.brk m12)))
def adjointref2_joinDims_l2 (fu : Nat) (op1 : SOp) (args2 : List (List Int)) : Int × (List Int) → Option ((Int × (List Int)) ⊕ (Ex (List Int) ((List Int) × Int))) := fun (v8, m9) =>
 cond (decide (v8 < ((lpart args2 1 (args2.length : Int)).length : Int)))
  ((idx (lpart args2 1 (args2.length : Int)) v8).bind fun x10 =>
   cond ((x10.length : Int) != (m9.length : Int))
    (some (.inr (.ret (([] : List Int), 6))))
    (bindE (fun r => r) (loopF (adjointref2_joinDims_l1 fu op1 x10) fu (0, m9) : Option (Ex (List Int) ((Int × (List Int)) ⊕ (Ex (List Int) ((List Int) × Int))))) fun (m20 : List Int) =>
    some (.inl (IntKind.wrap .i64 (v8 + 1), m20))))
  (some (.inr (.brk m9)))
def adjointref2_joinDims (fu : Nat) (op1 : SOp) (args2 : List (List Int)) : Option ((List Int) × Int) :=
 (cond ((op1.At.length : Int) != 1) (some true) ((idx op1.At 0).bind fun x3 =>
  cond (decide (x3 < 0)) (some true) ((idx op1.At 0).bind fun x4 =>
  (idx args2 0).bind fun x5 =>
  some (decide (x4 ≥ (x5.length : Int)))))).bind fun (v6 : Bool) =>
 cond v6
  (some (([] : List Int), 6))
  ((idx args2 0).bind fun x7 =>
   (chk (([] : List Int).length + x7.length ≤ maxLen ∧ (([] : List Int).length + x7.length) * 8 ≤ 140737488355328)).bind fun _ =>
   (chk ((0 : Int) ≤ 1 ∧ 1 ≤ (args2.length : Int))).bind fun _ =>
   bindE (fun r => r) (loopF (adjointref2_joinDims_l2 fu op1 args2) fu (0, ([] : List Int) ++ x7) : Option (Ex (List Int) ((List Int) × Int))) fun (m21 : List Int) =>
   some (m21, 0))
def adjointref1_has_l1 (fu : Nat) (l1 : List Int) (n2 : Int) : Int → Option (Int ⊕ (Ex Unit Bool)) := fun v3 =>
 cond (decide (v3 < (l1.length : Int)))
  ((idx l1 v3).bind fun x4 =>
   cond (x4 == n2)
    (some (.inr (.ret true)))
    (some (.inl (IntKind.wrap .i64 (v3 + 1)))))
  (some (.inr (.brk ())))
def adjointref1_has (fu : Nat) (l1 : List Int) (n2 : Int) : Option (Bool) :=
 bindE (fun r => r) (loopF (adjointref1_has_l1 fu l1 n2) fu 0 : Option (Ex Unit Bool)) fun (_ : Unit) =>
 some false
def adjointref1_Steps_l1 (fu : Nat) (dims1 : List Int) (v2 : Int) : Int × Int → Option ((Int × Int) ⊕ Int) := fun (n4, v5) =>
 cond (decide (v5 < ((lpart dims1 (IntKind.wrap .i64 (v2 + 1)) (dims1.length : Int)).length : Int)))
  ((idx (lpart dims1 (IntKind.wrap .i64 (v2 + 1)) (dims1.length : Int)) v5).bind fun x6 =>
   some (.inl (IntKind.wrap .i64 (n4 * x6), IntKind.wrap .i64 (v5 + 1))))
  (some (.inr n4))
def adjointref1_Steps_l2 (fu : Nat) (dims1 : List Int) : Int × (List Int) → Option ((Int × (List Int)) ⊕ (List Int)) := fun (v2, m3) =>
 cond (decide (v2 < (dims1.length : Int)))
  ((chk ((0 : Int) ≤ (IntKind.wrap .i64 (v2 + 1)) ∧ (IntKind.wrap .i64 (v2 + 1)) ≤ (dims1.length : Int))).bind fun _ =>
   (loopF (adjointref1_Steps_l1 fu dims1 v2) fu (1, 0)).bind fun (n7 : Int) =>
   (adjointref1_has fu dims1 0).bind fun (r8 : Bool) =>
   (cond r8
     (some 0)
     (some n7)).bind fun (n9 : Int) =>
   (chk (m3.length + [n9].length ≤ maxLen ∧ (m3.length + [n9].length) * 8 ≤ 140737488355328)).bind fun _ =>
   some (.inl (IntKind.wrap .i64 (v2 + 1), m3 ++ [n9])))
  (some (.inr m3))
def adjointref1_Steps (fu : Nat) (dims1 : List Int) : Option (List Int) :=
 (loopF (adjointref1_Steps_l2 fu dims1) fu (0, ([] : List Int))).bind fun (m10 : List Int) =>
 some m10
def adjointref1_Whole (fu : Nat) (dims1 : List Int) : Option (SView × Int) :=
 (adjointref1_Size fu dims1).bind fun ((r2, r3) : Int × Int) =>
 cond (r3 != 0)
  (some ((⟨0, ([] : List Int), ([] : List Int)⟩ : SView), r3))
  ((adjointref1_Steps fu dims1).bind fun (r4 : List Int) =>
   some ((⟨0, dims1, r4⟩ : SView), 0))
def adjointref1_far (fu : Nat) (n1 : Int) : Option (Bool) :=
 (cond (decide (n1 > 1099511627776)) (some true) (some (decide (n1 < (-1099511627776))))).bind fun (v2 : Bool) =>
 some v2
def adjointref1_Wrong_l1 (fu : Nat) (v1 : SView) : Int → Option (Int ⊕ (Ex Unit Int)) := fun v5 =>
 cond (decide (v5 < (v1.Steps.length : Int)))
  ((idx v1.Steps v5).bind fun x6 =>
   (adjointref1_far fu x6).bind fun (r7 : Bool) =>
   cond r7
    (some (.inr (.ret 4)))
    (some (.inl (IntKind.wrap .i64 (v5 + 1)))))
  (some (.inr (.brk ())))
def adjointref1_Wrong (fu : Nat) (v1 : SView) : Option (Int) :=
 (adjointref1_Size fu v1.Dims).bind fun ((r2, r3) : Int × Int) =>
 cond (r3 != 0)
  (some r3)
  (cond ((v1.Steps.length : Int) != (v1.Dims.length : Int))
    (some 6)
    ((adjointref1_far fu v1.Start).bind fun (r4 : Bool) =>
    cond r4
     (some 4)
     (bindE (fun r => r) (loopF (adjointref1_Wrong_l1 fu v1) fu 0 : Option (Ex Unit Int)) fun (_ : Unit) =>
      some 0)))
def adjointref1_Spread_l1 (fu : Nat) (v1 : SView) (dims2 : List Int) (at3 : List Int) : Int × Int × (List Int) × (List Int) × (List Int) × Int × (List Int) → Option ((Int × Int × (List Int) × (List Int) × (List Int) × Int × (List Int)) ⊕ (Ex (Int × (List Int) × (List Int) × (List Int) × Int × (List Int)) (SView × Int))) := fun (v12, m13, m14, m15, m16, m17, m18) =>
 cond (decide (v12 < (at3.length : Int)))
  ((idx at3 v12).bind fun x19 =>
   (idx dims2 x19).bind fun x20 =>
   (idx v1.Dims v12).bind fun x21 =>
   cond (x20 != x21)
    (some (.inr (.ret ((⟨0, ([] : List Int), ([] : List Int)⟩ : SView), 6))))
    ((idx v1.Steps v12).bind fun x22 =>
    (idx m16 x19).bind fun x23 =>
    some (.inl (IntKind.wrap .i64 (v12 + 1), m13, m14, m15, m16.set x19.toNat x22, m17, m18))))
  (some (.inr (.brk (m13, m14, m15, m16, m17, m18))))
def adjointref1_Spread (fu : Nat) (v1 : SView) (dims2 : List Int) (at3 : List Int) : Option (SView × Int) :=
 (adjointref1_Wrong fu v1).bind fun (r4 : Int) =>
 cond (r4 != 0)
  (some ((⟨0, ([] : List Int), ([] : List Int)⟩ : SView), r4))
  ((adjointref1_Size fu dims2).bind fun ((r5, r6) : Int × Int) =>
   cond (r6 != 0)
    (some ((⟨0, ([] : List Int), ([] : List Int)⟩ : SView), r6))
    ((cond ((at3.length : Int) != (v1.Dims.length : Int)) (some true) ((adjointref1_Rising fu at3 (dims2.length : Int)).bind fun (r7 : Bool) =>
     some (!r7))).bind fun (v8 : Bool) =>
    cond v8
     (some ((⟨0, ([] : List Int), ([] : List Int)⟩ : SView), 6))
     ((amb2 ((chk ((0 : Int) ≤ (dims2.length : Int) ∧ (dims2.length : Int) ≤ (dims2.length : Int) ∧ ((8 : Nat) : Int) * (dims2.length : Int) ≤ 281474976710656 ∧ (dims2.length : Int) ≤ 9223372036854775807)).bind fun _ =>
       some (v1.Start, dims2, List.replicate (Int.toNat (dims2.length : Int)) (0 : Int)))).bind fun ((m9, m10, m11) : Int × (List Int) × (List Int)) =>
      bindE (fun r => r) (loopF (adjointref1_Spread_l1 fu v1 dims2 at3) fu (0, 0, ([] : List Int), ([] : List Int), m11, m9, m10) : Option (Ex (Int × (List Int) × (List Int) × (List Int) × Int × (List Int)) (SView × Int))) fun ((m24, m25, m26, m27, m28, m29) : Int × (List Int) × (List Int) × (List Int) × Int × (List Int)) =>
      some ((⟨m28, m29, m27⟩ : SView), 0))))
def adjointref1_Turn_l1 (fu : Nat) (v1 : SView) (perm2 : List Int) : Int × Int × (List Int) × (List Int) → Option ((Int × Int × (List Int) × (List Int)) ⊕ (Ex (Int × (List Int) × (List Int)) (SView × Int))) := fun (v4, m5, m6, m7) =>
 cond (decide (v4 < (v1.Dims.length : Int)))
  ((adjointref1_has fu perm2 v4).bind fun (r8 : Bool) =>
   cond (!r8)
    (some (.inr (.ret ((⟨0, ([] : List Int), ([] : List Int)⟩ : SView), 6))))
    (some (.inl (IntKind.wrap .i64 (v4 + 1), m5, m6, m7))))
  (some (.inr (.brk (m5, m6, m7))))
def adjointref1_Turn_l2 (fu : Nat) (v1 : SView) (perm2 : List Int) : Int × Int × (List Int) × (List Int) → Option ((Int × Int × (List Int) × (List Int)) ⊕ (Int × (List Int) × (List Int))) := fun (v12, m13, m14, m15) =>
 cond (decide (v12 < (perm2.length : Int)))
  ((idx perm2 v12).bind fun x16 =>
   ((idx v1.Dims x16).bind fun x17 =>
    amb2 ((chk (m14.length + [x17].length ≤ maxLen ∧ (m14.length + [x17].length) * 8 ≤ 140737488355328)).bind fun _ =>
    some (m14 ++ [x17], m13))).bind fun ((m18, m19) : (List Int) × Int) =>
   ((idx v1.Steps x16).bind fun x20 =>
    amb2 ((chk (m15.length + [x20].length ≤ maxLen ∧ (m15.length + [x20].length) * 8 ≤ 140737488355328)).bind fun _ =>
    some (m15 ++ [x20], m19))).bind fun ((m21, m22) : (List Int) × Int) =>
   some (.inl (IntKind.wrap .i64 (v12 + 1), m22, m18, m21)))
  (some (.inr (m13, m14, m15)))
def adjointref1_Turn (fu : Nat) (v1 : SView) (perm2 : List Int) : Option (SView × Int) :=
 (adjointref1_Wrong fu v1).bind fun (r3 : Int) =>
 cond (r3 != 0)
  (some ((⟨0, ([] : List Int), ([] : List Int)⟩ : SView), r3))
  (cond ((perm2.length : Int) != (v1.Dims.length : Int))
    (some ((⟨0, ([] : List Int), ([] : List Int)⟩ : SView), 6))
    (bindE (fun r => r) (loopF (adjointref1_Turn_l1 fu v1 perm2) fu (0, 0, ([] : List Int), ([] : List Int)) : Option (Ex (Int × (List Int) × (List Int)) (SView × Int))) fun ((m9, m10, m11) : Int × (List Int) × (List Int)) =>
    (loopF (adjointref1_Turn_l2 fu v1 perm2) fu (0, v1.Start, ([] : List Int), ([] : List Int))).bind fun ((m23, m24, m25) : Int × (List Int) × (List Int)) =>
    some ((⟨m23, m24, m25⟩ : SView), 0)))
def adjointref1_Kept_l1 (fu : Nat) (hi2 : Int) (step3 : Int) : Int × Int → Option ((Int × Int) ⊕ Int) := fun (n4, i5) =>
 cond (decide (i5 < hi2))
  (some (.inl (IntKind.wrap .i64 (n4 + 1), IntKind.wrap .i64 (i5 + step3))))
  (some (.inr n4))
def adjointref1_Kept (fu : Nat) (lo1 : Int) (hi2 : Int) (step3 : Int) : Option (Int) :=
 (loopF (adjointref1_Kept_l1 fu hi2 step3) fu (0, lo1)).bind fun (n6 : Int) =>
 some n6
def adjointref1_made (fu : Nat) (v1 : SView) : Option (SView × Int) :=
 (adjointref1_Wrong fu v1).bind fun (r2 : Int) =>
 cond (r2 != 0)
  (some ((⟨0, ([] : List Int), ([] : List Int)⟩ : SView), 5))
  (some (v1, 0))
def adjointref1_Cut_l1 (fu : Nat) (v1 : SView) (lo2 : List Int) (hi3 : List Int) (step4 : List Int) : Int × Int × (List Int) × (List Int) → Option ((Int × Int × (List Int) × (List Int)) ⊕ (Ex (Int × (List Int) × (List Int)) (SView × Int))) := fun (v7, m8, m9, m10) =>
 cond (decide (v7 < (v1.Dims.length : Int)))
  ((idx v1.Dims v7).bind fun x11 =>
   ((idx lo2 v7).bind fun x12 =>
    cond (decide (x12 < 0)) (some true) ((idx hi3 v7).bind fun x13 =>
    (idx lo2 v7).bind fun x14 =>
    cond (decide (x13 < x14)) (some true) ((idx hi3 v7).bind fun x15 =>
    cond (decide (x11 < x15)) (some true) ((idx step4 v7).bind fun x16 =>
    cond (decide (x16 < 1)) (some true) ((idx step4 v7).bind fun x17 =>
    some (decide (x17 > 4096))))))).bind fun (v18 : Bool) =>
   cond v18
    (some (.inr (.ret ((⟨0, ([] : List Int), ([] : List Int)⟩ : SView), 4))))
    (some (.inl (IntKind.wrap .i64 (v7 + 1), m8, m9, m10))))
  (some (.inr (.brk (m8, m9, m10))))
def adjointref1_Cut_l2 (fu : Nat) (v1 : SView) (lo2 : List Int) (hi3 : List Int) (step4 : List Int) : Int × Int × (List Int) × (List Int) → Option ((Int × Int × (List Int) × (List Int)) ⊕ (Int × (List Int) × (List Int))) := fun (v22, m23, m24, m25) =>
 cond (decide (v22 < (v1.Dims.length : Int)))
  ((idx lo2 v22).bind fun x26 =>
   (idx v1.Steps v22).bind fun x27 =>
   ((idx lo2 v22).bind fun x28 =>
    (idx hi3 v22).bind fun x29 =>
    (idx step4 v22).bind fun x30 =>
    amb ((adjointref1_Kept fu x28 x29 x30).bind fun (r31 : Int) =>
    (chk (m24.length + [r31].length ≤ maxLen ∧ (m24.length + [r31].length) * 8 ≤ 140737488355328)).bind fun _ =>
    some (m24 ++ [r31], IntKind.wrap .i64 (m23 + (IntKind.wrap .i64 (x26 * x27))))) ((adjointref1_Kept fu x28 x29 x30).bind fun (r31 : Int) =>
    amb2 ((chk (m24.length + [r31].length ≤ maxLen ∧ (m24.length + [r31].length) * 8 ≤ 140737488355328)).bind fun _ =>
    some (m24 ++ [r31], IntKind.wrap .i64 (m23 + (IntKind.wrap .i64 (x26 * x27))))))).bind fun ((m32, m33) : (List Int) × Int) =>
   ((idx v1.Steps v22).bind fun x34 =>
    (idx step4 v22).bind fun x35 =>
    amb2 ((chk (m25.length + [IntKind.wrap .i64 (x34 * x35)].length ≤ maxLen ∧ (m25.length + [IntKind.wrap .i64 (x34 * x35)].length) * 8 ≤ 140737488355328)).bind fun _ =>
    some (m25 ++ [IntKind.wrap .i64 (x34 * x35)], m33))).bind fun ((m36, m37) : (List Int) × Int) =>
   some (.inl (IntKind.wrap .i64 (v22 + 1), m37, m32, m36)))
  (some (.inr (m23, m24, m25)))
def adjointref1_Cut (fu : Nat) (v1 : SView) (lo2 : List Int) (hi3 : List Int) (step4 : List Int) : Option (SView × Int) :=
 (adjointref1_Wrong fu v1).bind fun (r5 : Int) =>
 cond (r5 != 0)
  (some ((⟨0, ([] : List Int), ([] : List Int)⟩ : SView), r5))
  ((cond ((lo2.length : Int) != (v1.Dims.length : Int)) (some true) (cond ((hi3.length : Int) != (v1.Dims.length : Int)) (some true) (some ((step4.length : Int) != (v1.Dims.length : Int))))).bind fun (v6 : Bool) =>
   cond v6
    (some ((⟨0, ([] : List Int), ([] : List Int)⟩ : SView), 6))
    (bindE (fun r => r) (loopF (adjointref1_Cut_l1 fu v1 lo2 hi3 step4) fu (0, 0, ([] : List Int), ([] : List Int)) : Option (Ex (Int × (List Int) × (List Int)) (SView × Int))) fun ((m19, m20, m21) : Int × (List Int) × (List Int)) =>
    (loopF (adjointref1_Cut_l2 fu v1 lo2 hi3 step4) fu (0, v1.Start, ([] : List Int), ([] : List Int))).bind fun ((m38, m39, m40) : Int × (List Int) × (List Int)) =>
    (adjointref1_made fu (⟨m38, m39, m40⟩ : SView)).bind fun ((r41, r42) : SView × Int) =>
    some (r41, r42)))
def adjointref1_Flip_l1 (fu : Nat) (v1 : SView) (at2 : List Int) : Int × Int × (List Int) × (List Int) → Option ((Int × Int × (List Int) × (List Int)) ⊕ (Int × (List Int) × (List Int))) := fun (v5, m6, m7, m8) =>
 cond (decide (v5 < (v1.Steps.length : Int)))
  ((idx v1.Steps v5).bind fun x9 =>
   (adjointref1_has fu at2 v5).bind fun (r10 : Bool) =>
   (cond r10
     ((idx v1.Dims v5).bind fun x11 =>
     (cond (decide (x11 > 0))
       ((idx v1.Dims v5).bind fun x12 =>
        some (IntKind.wrap .i64 (m6 + (IntKind.wrap .i64 ((IntKind.wrap .i64 (x12 - 1)) * x9))), m7))
       (some (m6, m7))).bind fun ((m13, m14) : Int × (List Int)) =>
     some (IntKind.wrap .i64 (0 - x9), m13, m14))
     (some (x9, m6, m7))).bind fun ((s15, m16, m17) : Int × Int × (List Int)) =>
   (chk (m8.length + [s15].length ≤ maxLen ∧ (m8.length + [s15].length) * 8 ≤ 140737488355328)).bind fun _ =>
   some (.inl (IntKind.wrap .i64 (v5 + 1), m16, m17, m8 ++ [s15])))
  (some (.inr (m6, m7, m8)))
def adjointref1_Flip (fu : Nat) (v1 : SView) (at2 : List Int) : Option (SView × Int) :=
 (adjointref1_Wrong fu v1).bind fun (r3 : Int) =>
 cond (r3 != 0)
  (some ((⟨0, ([] : List Int), ([] : List Int)⟩ : SView), r3))
  ((adjointref1_Rising fu at2 (v1.Dims.length : Int)).bind fun (r4 : Bool) =>
   cond (!r4)
    (some ((⟨0, ([] : List Int), ([] : List Int)⟩ : SView), 6))
    ((loopF (adjointref1_Flip_l1 fu v1 at2) fu (0, v1.Start, v1.Dims, ([] : List Int))).bind fun ((m18, m19, m20) : Int × (List Int) × (List Int)) =>
    (adjointref1_made fu (⟨m18, m19, m20⟩ : SView)).bind fun ((r21, r22) : SView × Int) =>
    some (r21, r22)))
def adjointref2_viewDims (fu : Nat) (op1 : SOp) (d2 : List Int) : Option ((List Int) × Int) :=
 (adjointref1_Whole fu d2).bind fun ((r3, r4) : SView × Int) =>
 cond (r4 != 0)
  (some (([] : List Int), r4))
  ((cond (op1.Kind == 9)
     ((adjointref1_Spread fu r3 op1.Dims op1.At).bind fun ((r5, r6) : SView × Int) =>
     some (r6, r5.Start, r5.Dims, r5.Steps))
     ((cond (op1.Kind == 11)
       ((adjointref1_Turn fu r3 op1.At).bind fun ((r7, r8) : SView × Int) =>
        some (r8, r7.Start, r7.Dims, r7.Steps))
       ((cond (op1.Kind == 13)
          ((adjointref1_Cut fu r3 op1.Lo op1.Hi op1.Step).bind fun ((r9, r10) : SView × Int) =>
          some (r10, r9.Start, r9.Dims, r9.Steps))
          ((adjointref1_Flip fu r3 op1.At).bind fun ((r11, r12) : SView × Int) =>
          some (r12, r11.Start, r11.Dims, r11.Steps))).bind fun ((e13, m14, m15, m16) : Int × Int × (List Int) × (List Int)) =>
        some (e13, m14, m15, m16))).bind fun ((e17, m18, m19, m20) : Int × Int × (List Int) × (List Int)) =>
     some (e17, m18, m19, m20))).bind fun ((e21, m22, m23, m24) : Int × Int × (List Int) × (List Int)) =>
   some (m23, e21))
def adjointref2_ruled_l1 (fu : Nat) (args2 : List (List Int)) : Int → Option (Int ⊕ (Ex Unit ((List Int) × Int))) := fun v8 =>
 cond (decide (v8 < (args2.length : Int)))
  ((idx args2 v8).bind fun x9 =>
   (idx args2 0).bind fun x10 =>
   (adjointref2_SameList fu x9 x10).bind fun (r11 : Bool) =>
   cond (!r11)
    (some (.inr (.ret (([] : List Int), 6))))
    (some (.inl (IntKind.wrap .i64 (v8 + 1)))))
  (some (.inr (.brk ())))
def adjointref2_ruled (fu : Nat) (op1 : SOp) (args2 : List (List Int)) : Option ((List Int) × Int) :=
 cond (op1.Kind == 2)
  (some (op1.Dims, 0))
  ((cond (op1.Kind == 3)
     (some (op1.Kind == 3))
     ((cond (op1.Kind == 4)
       (some (op1.Kind == 4))
       ((cond (op1.Kind == 5)
          (some (op1.Kind == 5))
          ((cond (op1.Kind == 6)
            (some (op1.Kind == 6))
            ((cond (op1.Kind == 7)
               (some (op1.Kind == 7))
               (some (op1.Kind == 8))).bind fun (v3 : Bool) =>
             some v3)).bind fun (v4 : Bool) =>
          some v4)).bind fun (v5 : Bool) =>
        some v5)).bind fun (v6 : Bool) =>
     some v6)).bind fun (v7 : Bool) =>
   cond v7
    (bindE (fun r => r) (loopF (adjointref2_ruled_l1 fu args2) fu 0 : Option (Ex Unit ((List Int) × Int))) fun (_ : Unit) =>
    (idx args2 0).bind fun x12 =>
    some (x12, 0))
    (cond (op1.Kind == 10)
     ((idx args2 0).bind fun x13 =>
      (adjointref1_Rising fu op1.At (x13.length : Int)).bind fun (r14 : Bool) =>
      cond (!r14)
       (some (([] : List Int), 6))
       ((idx args2 0).bind fun x15 =>
       (idx args2 0).bind fun x16 =>
       (adjointref2_Free fu x16 op1.At).bind fun (r17 : List Int) =>
       (adjointref2_chosen fu x15 r17).bind fun (r18 : List Int) =>
       some (r18, 0)))
     (cond (op1.Kind == 12)
       ((adjointref1_Size fu op1.Dims).bind fun ((r19, r20) : Int × Int) =>
       cond (r20 != 0)
        (some (([] : List Int), r20))
        ((idx args2 0).bind fun x21 =>
         (adjointref1_Size fu x21).bind fun ((r22, r23) : Int × Int) =>
         cond (r22 != r19)
          (some (([] : List Int), 6))
          (some (op1.Dims, 0))))
       (cond (op1.Kind == 14)
        ((idx args2 0).bind fun x24 =>
         (adjointref2_padDims fu op1 x24).bind fun ((r25, r26) : (List Int) × Int) =>
         some (r25, r26))
        (cond (op1.Kind == 16)
          ((idx args2 0).bind fun x27 =>
          (idx args2 1).bind fun x28 =>
          (adjointref2_dotDims fu op1 x27 x28).bind fun ((r29, r30) : (List Int) × Int) =>
          some (r29, r30))
          (cond (op1.Kind == 17)
           ((adjointref2_joinDims fu op1 args2).bind fun ((r31, r32) : (List Int) × Int) =>
            some (r31, r32))
           (cond (op1.Kind == 18)
             ((idx args2 0).bind fun x33 =>
             cond ((x33.length : Int) == 0)
              (some (([] : List Int), 6))
              ((idx args2 1).bind fun x34 =>
               (idx args2 0).bind fun x35 =>
               (chk ((0 : Int) ≤ 1 ∧ 1 ≤ (x35.length : Int))).bind fun _ =>
               (adjointref2_both fu x34 (lpart x35 1 (x35.length : Int))).bind fun (r36 : List Int) =>
               some (r36, 0)))
             (cond (op1.Kind == 19)
              ((cond ((op1.Dims.length : Int) != 1) (some true) ((idx args2 0).bind fun x37 =>
                (idx args2 1).bind fun x38 =>
                cond (decide ((x37.length : Int) < (x38.length : Int))) (some true) ((idx args2 0).bind fun x39 =>
                (idx args2 1).bind fun x40 =>
                (chk ((0 : Int) ≤ (x40.length : Int) ∧ (x40.length : Int) ≤ (x39.length : Int))).bind fun _ =>
                (idx args2 1).bind fun x41 =>
                (adjointref2_SameList fu (lpart x39 0 (x40.length : Int)) x41).bind fun (r42 : Bool) =>
                some (!r42)))).bind fun (v43 : Bool) =>
               cond v43
                (some (([] : List Int), 6))
                ((idx args2 0).bind fun x44 =>
                (idx args2 1).bind fun x45 =>
                (chk ((0 : Int) ≤ (x45.length : Int) ∧ (x45.length : Int) ≤ (x44.length : Int))).bind fun _ =>
                (adjointref2_both fu op1.Dims (lpart x44 (x45.length : Int) (x44.length : Int))).bind fun (r46 : List Int) =>
                some (r46, 0)))
              ((idx args2 0).bind fun x47 =>
               (adjointref2_viewDims fu op1 x47).bind fun ((r48, r49) : (List Int) × Int) =>
               some (r48, r49))))))))))
def adjointref2_Dims_l1 (fu : Nat) (args2 : List (List Int)) : Int → Option (Int ⊕ (Ex Unit ((List Int) × Int))) := fun v4 =>
 cond (decide (v4 < (args2.length : Int)))
  ((idx args2 v4).bind fun x5 =>
   (adjointref1_Size fu x5).bind fun ((r6, r7) : Int × Int) =>
   cond (r7 != 0)
    (some (.inr (.ret (([] : List Int), r7))))
    (some (.inl (IntKind.wrap .i64 (v4 + 1)))))
  (some (.inr (.brk ())))
def adjointref2_Dims (fu : Nat) (op1 : SOp) (args2 : List (List Int)) : Option ((List Int) × Int) :=
 (adjointref2_Right fu op1 (args2.length : Int)).bind fun (r3 : Int) =>
 cond (r3 != 0)
  (some (([] : List Int), r3))
  (bindE (fun r => r) (loopF (adjointref2_Dims_l1 fu args2) fu 0 : Option (Ex Unit ((List Int) × Int))) fun (_ : Unit) =>
   (adjointref2_ruled fu op1 args2).bind fun ((r8, r9) : (List Int) × Int) =>
   cond (r9 != 0)
    (some (([] : List Int), r9))
    ((adjointref1_Size fu r8).bind fun ((r10, r11) : Int × Int) =>
    cond (r11 != 0)
     (some (([] : List Int), r11))
     (some (r8, 0))))
def array_Wrong (fu : Nat) (a1 : SArray) : Option (Int) :=
 (view_Size fu a1.Dims).bind fun ((r2, r3) : Int × Int) =>
 (cond (r3 == 0) (some (r2 != (a1.Data.length : Int))) (some false)).bind fun (v4 : Bool) =>
 cond v4
  (some 6)
  (some r3)
def array_pairwise (fu : Nat) (kind1 : Int) : Option (Int) :=
 cond (kind1 == 3)
  (some 73)
  (cond (kind1 == 4)
    (some 74)
    (cond (kind1 == 5)
     (some 75)
     (cond (kind1 == 6)
       (some 76)
       (some 77))))
def array_pairwise_1 (fu : Nat) (a1 : Int) (b2 : Int) : Option (Int) :=
 some (IntKind.wrap .i64 (a1 + b2))
def array_pairwise_2 (fu : Nat) (a1 : Int) (b2 : Int) : Option (Int) :=
 some (IntKind.wrap .i64 (a1 - b2))
def array_pairwise_3 (fu : Nat) (a1 : Int) (b2 : Int) : Option (Int) :=
 some (IntKind.wrap .i64 (a1 * b2))
def array_pairwise_4 (fu : Nat) (a1 : Int) (b2 : Int) : Option (Int) :=
 some (if b2 > a1 then b2 else a1)
def array_pairwise_5 (fu : Nat) (a1 : Int) (b2 : Int) : Option (Int) :=
 cond (decide (a1 < b2))
  (some 1)
  (some 0)
def view_Reads_l1 (fu : Nat) (v1 : SView) (v4 : Int) (x5 : Int) (x8 : Int) : Int × (List Int) → Option ((Int × (List Int)) ⊕ (List Int)) := fun (v9, m10) =>
 cond (decide (v9 < x5))
  ((idx v1.Steps v4).bind fun x11 =>
   (chk (m10.length + [IntKind.wrap .i64 (x8 + (IntKind.wrap .i64 (v9 * x11)))].length ≤ maxLen ∧ (m10.length + [IntKind.wrap .i64 (x8 + (IntKind.wrap .i64 (v9 * x11)))].length) * 8 ≤ 140737488355328)).bind fun _ =>
   some (.inl (IntKind.wrap .i64 (v9 + 1), m10 ++ [IntKind.wrap .i64 (x8 + (IntKind.wrap .i64 (v9 * x11)))])))
  (some (.inr m10))
def view_Reads_l2 (fu : Nat) (v1 : SView) (l3 : List Int) (v4 : Int) (x5 : Int) : Int × (List Int) → Option ((Int × (List Int)) ⊕ (List Int)) := fun (v6, m7) =>
 cond (decide (v6 < (l3.length : Int)))
  ((idx l3 v6).bind fun x8 =>
   (loopF (view_Reads_l1 fu v1 v4 x5 x8) fu (0, m7)).bind fun (m12 : List Int) =>
   some (.inl (IntKind.wrap .i64 (v6 + 1), m12)))
  (some (.inr m7))
def view_Reads_l3 (fu : Nat) (v1 : SView) : (List Int) × Int → Option (((List Int) × Int) ⊕ (List Int)) := fun (l3, v4) =>
 cond (decide (v4 < (v1.Dims.length : Int)))
  ((idx v1.Dims v4).bind fun x5 =>
   (chk ((0 : Int) ≤ 0 ∧ 0 ≤ (IntKind.wrap .i64 ((l3.length : Int) * x5)) ∧ ((8 : Nat) : Int) * (IntKind.wrap .i64 ((l3.length : Int) * x5)) ≤ 281474976710656 ∧ (IntKind.wrap .i64 ((l3.length : Int) * x5)) ≤ 9223372036854775807)).bind fun _ =>
   (loopF (view_Reads_l2 fu v1 l3 v4 x5) fu (0, List.replicate (Int.toNat 0) (0 : Int))).bind fun (m13 : List Int) =>
   some (.inl (m13, IntKind.wrap .i64 (v4 + 1))))
  (some (.inr l3))
def view_Reads (fu : Nat) (v1 : SView) : Option ((List Int) × Int) :=
 (view_Wrong fu v1).bind fun (r2 : Int) =>
 cond (r2 != 0)
  (some (([] : List Int), r2))
  ((loopF (view_Reads_l3 fu v1) fu ([v1.Start], 0)).bind fun (l14 : List Int) =>
   some (l14, 0))
def array_gather_l1 (fu : Nat) (from2 : List Int) (r4 : List Int) : Int × (List Int) → Option ((Int × (List Int)) ⊕ (List Int)) := fun (v6, m7) =>
 cond (decide (v6 < (r4.length : Int)))
  ((idx r4 v6).bind fun x8 =>
   (idx from2 x8).bind fun x9 =>
   (idx m7 v6).bind fun x10 =>
   some (.inl (IntKind.wrap .i64 (v6 + 1), m7.set v6.toNat x9)))
  (some (.inr m7))
def array_gather (fu : Nat) (v1 : SView) (from2 : List Int) (m3 : List Int) : Option (List Int) :=
 (view_Reads fu v1).bind fun ((r4, r5) : (List Int) × Int) =>
 (loopF (array_gather_l1 fu from2 r4) fu (0, m3)).bind fun (m11 : List Int) =>
 some m11
def array_turned (fu : Nat) (a1 : SArray) (perm2 : List Int) : Option (List Int) :=
 (view_Whole fu a1.Dims).bind fun ((r3, r4) : SView × Int) =>
 (view_Turn fu r3 perm2).bind fun ((r5, r6) : SView × Int) =>
 (chk ((0 : Int) ≤ (a1.Data.length : Int) ∧ (a1.Data.length : Int) ≤ (a1.Data.length : Int) ∧ ((8 : Nat) : Int) * (a1.Data.length : Int) ≤ 281474976710656 ∧ (a1.Data.length : Int) ≤ 9223372036854775807)).bind fun _ =>
 (array_gather fu r5 a1.Data (List.replicate (Int.toNat (a1.Data.length : Int)) (0 : Int))).bind fun (r7 : List Int) =>
 bif Nat.beq (List.length r7) (List.length (List.replicate (Int.toNat (a1.Data.length : Int)) (0 : Int))) then
 some r7
 else none
def array_sum_l1 (fu : Nat) (at1 : List Int) (a2 : SArray) : Int × (List Int) → Option ((Int × (List Int)) ⊕ (List Int)) := fun (v5, m6) =>
 cond (decide (v5 < (a2.Dims.length : Int)))
  ((slices_Contains fu at1 v5).bind fun (r7 : Bool) =>
   (cond (!r7)
     ((chk (m6.length + [v5].length ≤ maxLen ∧ (m6.length + [v5].length) * 8 ≤ 140737488355328)).bind fun _ =>
     some (m6 ++ [v5]))
     (some m6)).bind fun (m8 : List Int) =>
   some (.inl (IntKind.wrap .i64 (v5 + 1), m8)))
  (some (.inr m6))
def array_sum_l2 (fu : Nat) (m4 : List Int) (r11 : List Int) (v13 : Int) : Int × (List Int) × (List Int) → Option ((Int × (List Int) × (List Int)) ⊕ ((List Int) × (List Int))) := fun (v16, m17, m18) =>
 cond (decide (v16 < ((lpart r11 (IntKind.wrap .i64 (v13 * (IntKind.wrap .i64 (Int.tdiv (r11.length : Int) (m4.length : Int))))) (IntKind.wrap .i64 ((IntKind.wrap .i64 (v13 + 1)) * (IntKind.wrap .i64 (Int.tdiv (r11.length : Int) (m4.length : Int)))))).length : Int)))
  ((idx (lpart r11 (IntKind.wrap .i64 (v13 * (IntKind.wrap .i64 (Int.tdiv (r11.length : Int) (m4.length : Int))))) (IntKind.wrap .i64 ((IntKind.wrap .i64 (v13 + 1)) * (IntKind.wrap .i64 (Int.tdiv (r11.length : Int) (m4.length : Int)))))) v16).bind fun x19 =>
   (idx m17 v13).bind fun x20 =>
   (idx m17 v13).bind fun x21 =>
   some (.inl (IntKind.wrap .i64 (v16 + 1), m17.set v13.toNat (IntKind.wrap .i64 (x20 + x19)), m18)))
  (some (.inr (m17, m18)))
def array_sum_l3 (fu : Nat) (m4 : List Int) (r11 : List Int) : Int × (List Int) × (List Int) → Option ((Int × (List Int) × (List Int)) ⊕ ((List Int) × (List Int))) := fun (v13, m14, m15) =>
 cond (decide (v13 < (m4.length : Int)))
  ((chk ((0 : Int) ≤ (IntKind.wrap .i64 (v13 * (IntKind.wrap .i64 (Int.tdiv (r11.length : Int) (m4.length : Int))))) ∧ (IntKind.wrap .i64 (v13 * (IntKind.wrap .i64 (Int.tdiv (r11.length : Int) (m4.length : Int))))) ≤ (IntKind.wrap .i64 ((IntKind.wrap .i64 (v13 + 1)) * (IntKind.wrap .i64 (Int.tdiv (r11.length : Int) (m4.length : Int))))) ∧ (IntKind.wrap .i64 ((IntKind.wrap .i64 (v13 + 1)) * (IntKind.wrap .i64 (Int.tdiv (r11.length : Int) (m4.length : Int))))) ≤ (r11.length : Int))).bind fun _ =>
   (loopF (array_sum_l2 fu m4 r11 v13) fu (0, m14, m15)).bind fun ((m22, m23) : (List Int) × (List Int)) =>
   some (.inl (IntKind.wrap .i64 (v13 + 1), m22, m23)))
  (some (.inr (m14, m15)))
def array_sum (fu : Nat) (at1 : List Int) (a2 : SArray) (out3 : List Int) (m4 : List Int) : Option (List Int) :=
 (loopF (array_sum_l1 fu at1 a2) fu (0, ([] : List Int))).bind fun (m9 : List Int) =>
 (Go.Proofs.YtcbaolgciiieeaaGreat.F.slices_Concat fu [m9, at1]).bind fun (r10 : List Int) =>
 (array_turned fu a2 r10).bind fun (r11 : List Int) =>
 (cond ((m4.length : Int) == 0) (some true) (some ((r11.length : Int) == 0))).bind fun (v12 : Bool) =>
 cond v12
  (some m4)
  ((chk ((m4.length : Int) ≠ 0)).bind fun _ =>
   (loopF (array_sum_l3 fu m4 r11) fu (0, m4, out3)).bind fun ((m24, m25) : (List Int) × (List Int)) =>
   some m24)
def array_pad_l1 (fu : Nat) (op1 : SOp) (a2 : SArray) : Int × (List Int) → Option ((Int × (List Int)) ⊕ (List Int)) := fun (v5, m6) =>
 cond (decide (v5 < (a2.Dims.length : Int)))
  ((idx a2.Dims v5).bind fun x7 =>
   (idx op1.Lo v5).bind fun x8 =>
   (idx m6 v5).bind fun x9 =>
   (cond (decide (x7 > 0))
     ((idx (m6.set v5.toNat x8) v5).bind fun x10 =>
     (idx op1.Step v5).bind fun x11 =>
     (idx (m6.set v5.toNat x8) v5).bind fun x12 =>
     some ((m6.set v5.toNat x8).set v5.toNat (IntKind.wrap .i64 (x10 + (IntKind.wrap .i64 ((IntKind.wrap .i64 ((IntKind.wrap .i64 (x7 - 1)) * x11)) + 1))))))
     (some (m6.set v5.toNat x8))).bind fun (m13 : List Int) =>
   some (.inl (IntKind.wrap .i64 (v5 + 1), m13)))
  (some (.inr m6))
def array_pad_l2 (fu : Nat) (a2 : SArray) (r19 : List Int) : Int × (List Int) × (List Int) → Option ((Int × (List Int) × (List Int)) ⊕ ((List Int) × (List Int))) := fun (v21, m22, m23) =>
 cond (decide (v21 < (r19.length : Int)))
  ((idx r19 v21).bind fun x24 =>
   (idx a2.Data v21).bind fun x25 =>
   (idx m22 x24).bind fun x26 =>
   some (.inl (IntKind.wrap .i64 (v21 + 1), m22.set x24.toNat x25, m23)))
  (some (.inr (m22, m23)))
def array_pad (fu : Nat) (op1 : SOp) (a2 : SArray) (out3 : List Int) (m4 : List Int) : Option (List Int) :=
 (chk ((0 : Int) ≤ (a2.Dims.length : Int) ∧ (a2.Dims.length : Int) ≤ (a2.Dims.length : Int) ∧ ((8 : Nat) : Int) * (a2.Dims.length : Int) ≤ 281474976710656 ∧ (a2.Dims.length : Int) ≤ 9223372036854775807)).bind fun _ =>
 (loopF (array_pad_l1 fu op1 a2) fu (0, List.replicate (Int.toNat (a2.Dims.length : Int)) (0 : Int))).bind fun (m14 : List Int) =>
 (view_Whole fu out3).bind fun ((r15, r16) : SView × Int) =>
 (view_Cut fu r15 op1.Lo m14 op1.Step).bind fun ((r17, r18) : SView × Int) =>
 cond (r18 != 0)
  (some m4)
  ((view_Reads fu r17).bind fun ((r19, r20) : (List Int) × Int) =>
   (loopF (array_pad_l2 fu a2 r19) fu (0, m4, out3)).bind fun ((m27, m28) : (List Int) × (List Int)) =>
   some m27)
def array_dot_l1 (fu : Nat) (r6 : Spairing) (r8 : List Int) (r9 : List Int) (v11 : Int) (v14 : Int) (v17 : Int) : Int × Int → Option ((Int × Int) ⊕ Int) := fun (s20, v21) =>
 cond (decide (v21 < ((lpart (lpart r8 (IntKind.wrap .i64 ((IntKind.wrap .i64 ((IntKind.wrap .i64 (v11 * r6.left)) + v14)) * r6.inner)) (r8.length : Int)) 0 r6.inner).length : Int)))
  ((idx (lpart (lpart r8 (IntKind.wrap .i64 ((IntKind.wrap .i64 ((IntKind.wrap .i64 (v11 * r6.left)) + v14)) * r6.inner)) (r8.length : Int)) 0 r6.inner) v21).bind fun x22 =>
   (idx (lpart (lpart r9 (IntKind.wrap .i64 ((IntKind.wrap .i64 ((IntKind.wrap .i64 (v11 * r6.right)) + v17)) * r6.inner)) (r9.length : Int)) 0 r6.inner) v21).bind fun x23 =>
   some (.inl (IntKind.wrap .i64 (s20 + (IntKind.wrap .i64 (x22 * x23))), IntKind.wrap .i64 (v21 + 1))))
  (some (.inr s20))
def array_dot_l2 (fu : Nat) (r6 : Spairing) (r8 : List Int) (r9 : List Int) (v11 : Int) (v14 : Int) : Int × (List Int) × (List Int) → Option ((Int × (List Int) × (List Int)) ⊕ ((List Int) × (List Int))) := fun (v17, m18, m19) =>
 cond (decide (v17 < r6.right))
  ((chk ((0 : Int) ≤ (IntKind.wrap .i64 ((IntKind.wrap .i64 ((IntKind.wrap .i64 (v11 * r6.right)) + v17)) * r6.inner)) ∧ (IntKind.wrap .i64 ((IntKind.wrap .i64 ((IntKind.wrap .i64 (v11 * r6.right)) + v17)) * r6.inner)) ≤ (r9.length : Int))).bind fun _ =>
   (chk ((0 : Int) ≤ r6.inner ∧ r6.inner ≤ ((lpart r9 (IntKind.wrap .i64 ((IntKind.wrap .i64 ((IntKind.wrap .i64 (v11 * r6.right)) + v17)) * r6.inner)) (r9.length : Int)).length : Int))).bind fun _ =>
   (loopF (array_dot_l1 fu r6 r8 r9 v11 v14 v17) fu (0, 0)).bind fun (s24 : Int) =>
   (idx m18 (IntKind.wrap .i64 ((IntKind.wrap .i64 ((IntKind.wrap .i64 ((IntKind.wrap .i64 (v11 * r6.left)) + v14)) * r6.right)) + v17))).bind fun x25 =>
   some (.inl (IntKind.wrap .i64 (v17 + 1), m18.set ((IntKind.wrap .i64 ((IntKind.wrap .i64 ((IntKind.wrap .i64 ((IntKind.wrap .i64 (v11 * r6.left)) + v14)) * r6.right)) + v17)).toNat) s24, m19)))
  (some (.inr (m18, m19)))
def array_dot_l3 (fu : Nat) (r6 : Spairing) (r8 : List Int) (r9 : List Int) (v11 : Int) : Int × (List Int) × (List Int) → Option ((Int × (List Int) × (List Int)) ⊕ ((List Int) × (List Int))) := fun (v14, m15, m16) =>
 cond (decide (v14 < r6.left))
  ((chk ((0 : Int) ≤ (IntKind.wrap .i64 ((IntKind.wrap .i64 ((IntKind.wrap .i64 (v11 * r6.left)) + v14)) * r6.inner)) ∧ (IntKind.wrap .i64 ((IntKind.wrap .i64 ((IntKind.wrap .i64 (v11 * r6.left)) + v14)) * r6.inner)) ≤ (r8.length : Int))).bind fun _ =>
   (chk ((0 : Int) ≤ r6.inner ∧ r6.inner ≤ ((lpart r8 (IntKind.wrap .i64 ((IntKind.wrap .i64 ((IntKind.wrap .i64 (v11 * r6.left)) + v14)) * r6.inner)) (r8.length : Int)).length : Int))).bind fun _ =>
   (loopF (array_dot_l2 fu r6 r8 r9 v11 v14) fu (0, m15, m16)).bind fun ((m26, m27) : (List Int) × (List Int)) =>
   some (.inl (IntKind.wrap .i64 (v14 + 1), m26, m27)))
  (some (.inr (m15, m16)))
def array_dot_l4 (fu : Nat) (r6 : Spairing) (r8 : List Int) (r9 : List Int) : Int × (List Int) × (List Int) → Option ((Int × (List Int) × (List Int)) ⊕ ((List Int) × (List Int))) := fun (v11, m12, m13) =>
 cond (decide (v11 < r6.both))
  ((loopF (array_dot_l3 fu r6 r8 r9 v11) fu (0, m12, m13)).bind fun ((m28, m29) : (List Int) × (List Int)) =>
   some (.inl (IntKind.wrap .i64 (v11 + 1), m28, m29)))
  (some (.inr (m12, m13)))
def array_dot (fu : Nat) (op1 : SOp) (a2 : SArray) (b3 : SArray) (out4 : List Int) (m5 : List Int) : Option (List Int) :=
 (array_pair fu op1 a2.Dims b3.Dims).bind fun ((r6, r7) : Spairing × Int) =>
 (array_turned fu a2 r6.turnA).bind fun (r8 : List Int) =>
 (array_turned fu b3 r6.turnB).bind fun (r9 : List Int) =>
 (cond ((m5.length : Int) == 0) (some true) (some (r6.inner == 0))).bind fun (v10 : Bool) =>
 cond v10
  (some m5)
  ((loopF (array_dot_l4 fu r6 r8 r9) fu (0, m5, out4)).bind fun ((m30, m31) : (List Int) × (List Int)) =>
   some m30)
def array_join_l1 (fu : Nat) (at1 : Int) (out3 : List Int) : Int × Int → Option ((Int × Int) ⊕ Int) := fun (inner5, v6) =>
 cond (decide (v6 < ((lpart out3 (IntKind.wrap .i64 (at1 + 1)) (out3.length : Int)).length : Int)))
  ((idx (lpart out3 (IntKind.wrap .i64 (at1 + 1)) (out3.length : Int)) v6).bind fun x7 =>
   some (.inl (IntKind.wrap .i64 (inner5 * x7), IntKind.wrap .i64 (v6 + 1))))
  (some (.inr inner5))
def array_join_l2 (fu : Nat) (inner8 : Int) (x9 : Int) (from10 : Int) (x14 : SArray) (x15 : Int) : Int × (List Int) × (List Int) → Option ((Int × (List Int) × (List Int)) ⊕ ((List Int) × (List Int))) := fun (i16, m17, m18) =>
 (cond (decide ((IntKind.wrap .i64 (x15 * inner8)) > 0)) (some (decide ((IntKind.wrap .i64 (i16 * (IntKind.wrap .i64 (x15 * inner8)))) < (x14.Data.length : Int)))) (some false)).bind fun (v19 : Bool) =>
 cond v19
  ((chk ((0 : Int) ≤ (IntKind.wrap .i64 ((IntKind.wrap .i64 (i16 * (IntKind.wrap .i64 (x9 * inner8)))) + from10)) ∧ (IntKind.wrap .i64 ((IntKind.wrap .i64 (i16 * (IntKind.wrap .i64 (x9 * inner8)))) + from10)) ≤ ((m17.length : Nat) : Int))).bind fun _ =>
   (chk ((0 : Int) ≤ (IntKind.wrap .i64 (i16 * (IntKind.wrap .i64 (x15 * inner8)))) ∧ (IntKind.wrap .i64 (i16 * (IntKind.wrap .i64 (x15 * inner8)))) ≤ (IntKind.wrap .i64 ((IntKind.wrap .i64 (i16 + 1)) * (IntKind.wrap .i64 (x15 * inner8)))) ∧ (IntKind.wrap .i64 ((IntKind.wrap .i64 (i16 + 1)) * (IntKind.wrap .i64 (x15 * inner8)))) ≤ (x14.Data.length : Int))).bind fun _ =>
   (chk ((0 + Int.toNat (IntKind.wrap .i64 ((IntKind.wrap .i64 (i16 * (IntKind.wrap .i64 (x9 * inner8)))) + from10))) + (m17.length - Int.toNat (IntKind.wrap .i64 ((IntKind.wrap .i64 (i16 * (IntKind.wrap .i64 (x9 * inner8)))) + from10))) ≤ m17.length)).bind fun _ =>
   some (.inl (IntKind.wrap .i64 (i16 + 1), cpy m17 (lpart x14.Data (IntKind.wrap .i64 (i16 * (IntKind.wrap .i64 (x15 * inner8)))) (IntKind.wrap .i64 ((IntKind.wrap .i64 (i16 + 1)) * (IntKind.wrap .i64 (x15 * inner8))))) (0 + Int.toNat (IntKind.wrap .i64 ((IntKind.wrap .i64 (i16 * (IntKind.wrap .i64 (x9 * inner8)))) + from10))) (m17.length - Int.toNat (IntKind.wrap .i64 ((IntKind.wrap .i64 (i16 * (IntKind.wrap .i64 (x9 * inner8)))) + from10))), m18)))
  (some (.inr (m17, m18)))
def array_join_l3 (fu : Nat) (at1 : Int) (args2 : List SArray) (inner8 : Int) (x9 : Int) : Int × Int × (List Int) × (List Int) → Option ((Int × Int × (List Int) × (List Int)) ⊕ ((List Int) × (List Int))) := fun (from10, v11, m12, m13) =>
 cond (decide (v11 < (args2.length : Int)))
  ((idx args2 v11).bind fun x14 =>
   (idx x14.Dims at1).bind fun x15 =>
   (loopF (array_join_l2 fu inner8 x9 from10 x14 x15) fu (0, m12, m13)).bind fun ((m20, m21) : (List Int) × (List Int)) =>
   some (.inl (IntKind.wrap .i64 (from10 + (IntKind.wrap .i64 (x15 * inner8))), IntKind.wrap .i64 (v11 + 1), m20, m21)))
  (some (.inr (m12, m13)))
def array_join (fu : Nat) (at1 : Int) (args2 : List SArray) (out3 : List Int) (m4 : List Int) : Option (List Int) :=
 (chk ((0 : Int) ≤ (IntKind.wrap .i64 (at1 + 1)) ∧ (IntKind.wrap .i64 (at1 + 1)) ≤ (out3.length : Int))).bind fun _ =>
 (loopF (array_join_l1 fu at1 out3) fu (1, 0)).bind fun (inner8 : Int) =>
 (idx out3 at1).bind fun x9 =>
 cond ((m4.length : Int) == 0)
  (some m4)
  ((loopF (array_join_l3 fu at1 args2 inner8 x9) fu (0, 0, m4, out3)).bind fun ((m22, m23) : (List Int) × (List Int)) =>
   some m22)
def array_fill_1 (fu : Nat) (o1 : Int) (o2 : Int) (x3 : List Int) (m4 : List Int) : Option (List Int) :=
 (chk ((Int.toNat o1) + (Int.toNat o2) ≤ m4.length)).bind fun _ =>
 some (cpy m4 x3 (Int.toNat o1) (Int.toNat o2))
def array_rows_l1 (fu : Nat) (numbers1 : SArray) (few3 : SArray) (m4 : List Int) (x5 : Int) : Int × (List Int) × (List Int) → Option ((Int × (List Int) × (List Int)) ⊕ ((List Int) × (List Int))) := fun (v7, m8, m9) =>
 cond (decide (v7 < (numbers1.Data.length : Int)))
  ((idx numbers1.Data v7).bind fun x10 =>
   (cond (decide (x10 ≥ 0)) (some (decide (x10 < x5))) (some false)).bind fun (v11 : Bool) =>
   (cond v11
     ((chk ((0 : Int) ≤ (IntKind.wrap .i64 (v7 * (IntKind.wrap .i64 (Int.tdiv (m4.length : Int) (numbers1.Data.length : Int))))) ∧ (IntKind.wrap .i64 (v7 * (IntKind.wrap .i64 (Int.tdiv (m4.length : Int) (numbers1.Data.length : Int))))) ≤ (IntKind.wrap .i64 ((IntKind.wrap .i64 (v7 + 1)) * (IntKind.wrap .i64 (Int.tdiv (m4.length : Int) (numbers1.Data.length : Int))))) ∧ (IntKind.wrap .i64 ((IntKind.wrap .i64 (v7 + 1)) * (IntKind.wrap .i64 (Int.tdiv (m4.length : Int) (numbers1.Data.length : Int))))) ≤ ((m8.length : Nat) : Int))).bind fun _ =>
     (chk ((0 : Int) ≤ (IntKind.wrap .i64 (x10 * (IntKind.wrap .i64 (Int.tdiv (m4.length : Int) (numbers1.Data.length : Int))))) ∧ (IntKind.wrap .i64 (x10 * (IntKind.wrap .i64 (Int.tdiv (m4.length : Int) (numbers1.Data.length : Int))))) ≤ (IntKind.wrap .i64 ((IntKind.wrap .i64 (x10 + 1)) * (IntKind.wrap .i64 (Int.tdiv (m4.length : Int) (numbers1.Data.length : Int))))) ∧ (IntKind.wrap .i64 ((IntKind.wrap .i64 (x10 + 1)) * (IntKind.wrap .i64 (Int.tdiv (m4.length : Int) (numbers1.Data.length : Int))))) ≤ (few3.Data.length : Int))).bind fun _ =>
     (array_fill_1 fu (((0 + Int.toNat (IntKind.wrap .i64 (v7 * (IntKind.wrap .i64 (Int.tdiv (m4.length : Int) (numbers1.Data.length : Int)))))) : Nat) : Int) (((Int.toNat (IntKind.wrap .i64 ((IntKind.wrap .i64 (v7 + 1)) * (IntKind.wrap .i64 (Int.tdiv (m4.length : Int) (numbers1.Data.length : Int))))) - Int.toNat (IntKind.wrap .i64 (v7 * (IntKind.wrap .i64 (Int.tdiv (m4.length : Int) (numbers1.Data.length : Int)))))) : Nat) : Int) (lpart few3.Data (IntKind.wrap .i64 (x10 * (IntKind.wrap .i64 (Int.tdiv (m4.length : Int) (numbers1.Data.length : Int))))) (IntKind.wrap .i64 ((IntKind.wrap .i64 (x10 + 1)) * (IntKind.wrap .i64 (Int.tdiv (m4.length : Int) (numbers1.Data.length : Int)))))) m8).bind fun (r12 : List Int) =>
     bif Nat.beq (List.length r12) (List.length m8) then
     some (r12, m9)
     else none)
     (some (m8, m9))).bind fun ((m13, m14) : (List Int) × (List Int)) =>
   some (.inl (IntKind.wrap .i64 (v7 + 1), m13, m14)))
  (some (.inr (m8, m9)))
def array_rows (fu : Nat) (numbers1 : SArray) (many2 : List Int) (few3 : SArray) (m4 : List Int) : Option (List Int) :=
 (idx few3.Dims 0).bind fun x5 =>
 (cond ((numbers1.Data.length : Int) == 0) (some true) (some (x5 == 0))).bind fun (v6 : Bool) =>
 cond v6
  (some m4)
  ((chk ((numbers1.Data.length : Int) ≠ 0)).bind fun _ =>
   (loopF (array_rows_l1 fu numbers1 few3 m4 x5) fu (0, m4, many2)).bind fun ((m15, m16) : (List Int) × (List Int)) =>
   some m15)
def array_fill_2_l1 (fu : Nat) (y1 : List Int) (o3 : Int) : Int × Int × Int × (List Int) → Option ((Int × Int × Int × (List Int)) ⊕ (List Int)) := fun (v5, o6, o7, m8) =>
 cond (decide (v5 < (((Int.toNat o3) : Nat) : Int)))
  ((chk ((0 : Int) ≤ v5 ∧ v5 < (((Int.toNat o7) : Nat) : Int))).bind fun _ =>
   (m8[((Int.toNat o6) + v5.toNat)]?).bind fun x9 =>
   (idx y1 v5).bind fun x10 =>
   (chk ((0 : Int) ≤ v5 ∧ v5 < (((Int.toNat o7) : Nat) : Int))).bind fun _ =>
   (m8[((Int.toNat o6) + v5.toNat)]?).bind fun x11 =>
   some (.inl (IntKind.wrap .i64 (v5 + 1), (((Int.toNat o6) : Nat) : Int), (((Int.toNat o7) : Nat) : Int), m8.set ((Int.toNat o6) + v5.toNat) (IntKind.wrap .i64 (x9 + x10)))))
  (some (.inr m8))
def array_fill_2 (fu : Nat) (y1 : List Int) (o2 : Int) (o3 : Int) (m4 : List Int) : Option (List Int) :=
 (loopF (array_fill_2_l1 fu y1 o3) fu (0, (((Int.toNat o2) : Nat) : Int), (((Int.toNat o3) : Nat) : Int), m4)).bind fun (m12 : List Int) =>
 some m12
def array_rows_2_l1 (fu : Nat) (numbers1 : SArray) (many2 : SArray) (x5 : Int) : Int × (List Int) × (List Int) → Option ((Int × (List Int) × (List Int)) ⊕ ((List Int) × (List Int))) := fun (v7, m8, m9) =>
 cond (decide (v7 < (numbers1.Data.length : Int)))
  ((idx numbers1.Data v7).bind fun x10 =>
   (cond (decide (x10 ≥ 0)) (some (decide (x10 < x5))) (some false)).bind fun (v11 : Bool) =>
   (cond v11
     ((chk ((0 : Int) ≤ (IntKind.wrap .i64 (v7 * (IntKind.wrap .i64 (Int.tdiv (many2.Data.length : Int) (numbers1.Data.length : Int))))) ∧ (IntKind.wrap .i64 (v7 * (IntKind.wrap .i64 (Int.tdiv (many2.Data.length : Int) (numbers1.Data.length : Int))))) ≤ (IntKind.wrap .i64 ((IntKind.wrap .i64 (v7 + 1)) * (IntKind.wrap .i64 (Int.tdiv (many2.Data.length : Int) (numbers1.Data.length : Int))))) ∧ (IntKind.wrap .i64 ((IntKind.wrap .i64 (v7 + 1)) * (IntKind.wrap .i64 (Int.tdiv (many2.Data.length : Int) (numbers1.Data.length : Int))))) ≤ (many2.Data.length : Int))).bind fun _ =>
     (chk ((0 : Int) ≤ (IntKind.wrap .i64 (x10 * (IntKind.wrap .i64 (Int.tdiv (many2.Data.length : Int) (numbers1.Data.length : Int))))) ∧ (IntKind.wrap .i64 (x10 * (IntKind.wrap .i64 (Int.tdiv (many2.Data.length : Int) (numbers1.Data.length : Int))))) ≤ (IntKind.wrap .i64 ((IntKind.wrap .i64 (x10 + 1)) * (IntKind.wrap .i64 (Int.tdiv (many2.Data.length : Int) (numbers1.Data.length : Int))))) ∧ (IntKind.wrap .i64 ((IntKind.wrap .i64 (x10 + 1)) * (IntKind.wrap .i64 (Int.tdiv (many2.Data.length : Int) (numbers1.Data.length : Int))))) ≤ ((m8.length : Nat) : Int))).bind fun _ =>
     (array_fill_2 fu (lpart many2.Data (IntKind.wrap .i64 (v7 * (IntKind.wrap .i64 (Int.tdiv (many2.Data.length : Int) (numbers1.Data.length : Int))))) (IntKind.wrap .i64 ((IntKind.wrap .i64 (v7 + 1)) * (IntKind.wrap .i64 (Int.tdiv (many2.Data.length : Int) (numbers1.Data.length : Int)))))) (((0 + Int.toNat (IntKind.wrap .i64 (x10 * (IntKind.wrap .i64 (Int.tdiv (many2.Data.length : Int) (numbers1.Data.length : Int)))))) : Nat) : Int) (((Int.toNat (IntKind.wrap .i64 ((IntKind.wrap .i64 (x10 + 1)) * (IntKind.wrap .i64 (Int.tdiv (many2.Data.length : Int) (numbers1.Data.length : Int))))) - Int.toNat (IntKind.wrap .i64 (x10 * (IntKind.wrap .i64 (Int.tdiv (many2.Data.length : Int) (numbers1.Data.length : Int)))))) : Nat) : Int) m8).bind fun (r12 : List Int) =>
     bif Nat.beq (List.length r12) (List.length m8) then
     some (r12, m9)
     else none)
     (some (m8, m9))).bind fun ((m13, m14) : (List Int) × (List Int)) =>
   some (.inl (IntKind.wrap .i64 (v7 + 1), m13, m14)))
  (some (.inr (m8, m9)))
def array_rows_2 (fu : Nat) (numbers1 : SArray) (many2 : SArray) (few3 : List Int) (m4 : List Int) : Option (List Int) :=
 (idx few3 0).bind fun x5 =>
 (cond ((numbers1.Data.length : Int) == 0) (some true) (some (x5 == 0))).bind fun (v6 : Bool) =>
 cond v6
  (some m4)
  ((chk ((numbers1.Data.length : Int) ≠ 0)).bind fun _ =>
   (loopF (array_rows_2_l1 fu numbers1 many2 x5) fu (0, m4, few3)).bind fun ((m15, m16) : (List Int) × (List Int)) =>
   some m15)
def array_fill_l1 (fu : Nat) (op1 : SOp) (m4 : List Int) : Int × (List Int) × (List Int) → Option ((Int × (List Int) × (List Int)) ⊕ ((List Int) × (List Int))) := fun (v5, m6, m7) =>
 cond (decide (v5 < (m4.length : Int)))
  ((idx m6 v5).bind fun x8 =>
   some (.inl (IntKind.wrap .i64 (v5 + 1), m6.set v5.toNat op1.Value, m7)))
  (some (.inr (m6, m7)))
def array_fill_l2 (fu : Nat) (args2 : List SArray) (m4 : List Int) (r15 : Int) : Int × (List Int) × (List Int) → Option ((Int × (List Int) × (List Int)) ⊕ ((List Int) × (List Int))) := fun (v16, m17, m18) =>
 cond (decide (v16 < (m4.length : Int)))
  (((idx args2 0).bind fun x19 =>
    (idx x19.Data v16).bind fun x20 =>
    (idx args2 1).bind fun x21 =>
    (idx x21.Data v16).bind fun x22 =>
    cond (Nat.beq (Int.toNat r15) 73)
     ((array_pairwise_1 fu x20 x22).bind fun (r23 : Int) =>
     (idx m17 v16).bind fun x24 =>
     some (m17.set v16.toNat r23, m18))
     (cond (Nat.beq (Int.toNat r15) 74)
      ((array_pairwise_2 fu x20 x22).bind fun (r25 : Int) =>
       (idx m17 v16).bind fun x26 =>
       some (m17.set v16.toNat r25, m18))
      (cond (Nat.beq (Int.toNat r15) 75)
        ((array_pairwise_3 fu x20 x22).bind fun (r27 : Int) =>
        (idx m17 v16).bind fun x28 =>
        some (m17.set v16.toNat r27, m18))
        (cond (Nat.beq (Int.toNat r15) 76)
         ((array_pairwise_4 fu x20 x22).bind fun (r29 : Int) =>
          (idx m17 v16).bind fun x30 =>
          some (m17.set v16.toNat r29, m18))
         (cond (Nat.beq (Int.toNat r15) 77)
           ((array_pairwise_5 fu x20 x22).bind fun (r31 : Int) =>
           (idx m17 v16).bind fun x32 =>
           some (m17.set v16.toNat r31, m18))
           (none)))))).bind fun ((m33, m34) : (List Int) × (List Int)) =>
   some (.inl (IntKind.wrap .i64 (v16 + 1), m33, m34)))
  (some (.inr (m17, m18)))
def array_fill_l3 (fu : Nat) (args2 : List SArray) (x37 : SArray) : Int × (List Int) × (List Int) → Option ((Int × (List Int) × (List Int)) ⊕ ((List Int) × (List Int))) := fun (v38, m39, m40) =>
 cond (decide (v38 < (x37.Data.length : Int)))
  ((idx x37.Data v38).bind fun x41 =>
   (idx args2 2).bind fun x42 =>
   (idx x42.Data v38).bind fun x43 =>
   (idx m39 v38).bind fun x44 =>
   (cond (x41 != 0)
     ((idx args2 1).bind fun x45 =>
     (idx x45.Data v38).bind fun x46 =>
     (idx (m39.set v38.toNat x43) v38).bind fun x47 =>
     some ((m39.set v38.toNat x43).set v38.toNat x46, m40))
     (some (m39.set v38.toNat x43, m40))).bind fun ((m48, m49) : (List Int) × (List Int)) =>
   some (.inl (IntKind.wrap .i64 (v38 + 1), m48, m49)))
  (some (.inr (m39, m40)))
def array_fill (fu : Nat) (op1 : SOp) (args2 : List SArray) (out3 : List Int) (m4 : List Int) : Option (List Int) :=
 (cond (op1.Kind == 2)
   ((loopF (array_fill_l1 fu op1 m4) fu (0, m4, out3)).bind fun ((m9, m10) : (List Int) × (List Int)) =>
    some (m10, m9))
   ((cond (op1.Kind == 3)
      (some (op1.Kind == 3))
      ((cond (op1.Kind == 4)
        (some (op1.Kind == 4))
        ((cond (op1.Kind == 5)
           (some (op1.Kind == 5))
           ((cond (op1.Kind == 6)
             (some (op1.Kind == 6))
             (some (op1.Kind == 7))).bind fun (v11 : Bool) =>
           some v11)).bind fun (v12 : Bool) =>
         some v12)).bind fun (v13 : Bool) =>
      some v13)).bind fun (v14 : Bool) =>
    (cond v14
      ((array_pairwise fu op1.Kind).bind fun (r15 : Int) =>
      (loopF (array_fill_l2 fu args2 m4 r15) fu (0, m4, out3)).bind fun ((m35, m36) : (List Int) × (List Int)) =>
      some (m36, m35))
      ((cond (op1.Kind == 8)
        ((idx args2 0).bind fun x37 =>
         (loopF (array_fill_l3 fu args2 x37) fu (0, m4, out3)).bind fun ((m50, m51) : (List Int) × (List Int)) =>
         some (m51, m50))
        ((cond (op1.Kind == 10)
           ((idx args2 0).bind fun x52 =>
           (array_sum fu op1.At x52 out3 m4).bind fun (r53 : List Int) =>
           bif Nat.beq (List.length r53) (List.length m4) then
           some (out3, r53)
           else none)
           ((cond (op1.Kind == 14)
             ((idx args2 0).bind fun x54 =>
              (array_pad fu op1 x54 out3 m4).bind fun (r55 : List Int) =>
              bif Nat.beq (List.length r55) (List.length m4) then
              some (out3, r55)
              else none)
             ((cond (op1.Kind == 16)
                ((idx args2 0).bind fun x56 =>
                (idx args2 1).bind fun x57 =>
                (array_dot fu op1 x56 x57 out3 m4).bind fun (r58 : List Int) =>
                bif Nat.beq (List.length r58) (List.length m4) then
                some (out3, r58)
                else none)
                ((cond (op1.Kind == 17)
                  ((idx op1.At 0).bind fun x59 =>
                   (array_join fu x59 args2 out3 m4).bind fun (r60 : List Int) =>
                   bif Nat.beq (List.length r60) (List.length m4) then
                   some (out3, r60)
                   else none)
                  ((cond (op1.Kind == 18)
                     ((idx args2 1).bind fun x61 =>
                     (idx args2 0).bind fun x62 =>
                     (array_rows fu x61 out3 x62 m4).bind fun (r63 : List Int) =>
                     bif Nat.beq (List.length r63) (List.length m4) then
                     some (out3, r63)
                     else none)
                     ((cond (op1.Kind == 19)
                       ((idx args2 1).bind fun x64 =>
                        (idx args2 0).bind fun x65 =>
                        (array_rows_2 fu x64 x65 out3 m4).bind fun (r66 : List Int) =>
                        bif Nat.beq (List.length r66) (List.length m4) then
                        some (r66, out3)
                        else none)
                       (((idx args2 0).bind fun x67 =>
                         amb2 ((array_look fu op1 x67.Dims).bind fun ((r68, r69) : SView × Int) =>
                         some (r68.Start, r68.Dims, r68.Steps))).bind fun ((m70, m71, m72) : Int × (List Int) × (List Int)) =>
                        (idx args2 0).bind fun x73 =>
                        (array_gather fu (⟨m70, m71, m72⟩ : SView) x73.Data m4).bind fun (r74 : List Int) =>
                        bif Nat.beq (List.length r74) (List.length m4) then
                        some (r74, out3)
                        else none)).bind fun ((m75, m76) : (List Int) × (List Int)) =>
                     some (m76, m75))).bind fun ((m77, m78) : (List Int) × (List Int)) =>
                   some (m77, m78))).bind fun ((m79, m80) : (List Int) × (List Int)) =>
                some (m79, m80))).bind fun ((m81, m82) : (List Int) × (List Int)) =>
              some (m81, m82))).bind fun ((m83, m84) : (List Int) × (List Int)) =>
           some (m83, m84))).bind fun ((m85, m86) : (List Int) × (List Int)) =>
         some (m85, m86))).bind fun ((m87, m88) : (List Int) × (List Int)) =>
      some (m87, m88))).bind fun ((m89, m90) : (List Int) × (List Int)) =>
    some (m89, m90))).bind fun ((m91, m92) : (List Int) × (List Int)) =>
 some m92
def array_Do_l1 (fu : Nat) (args2 : List SArray) : Int × (List (List Int)) → Option ((Int × (List (List Int))) ⊕ (List (List Int))) := fun (v3, m4) =>
 cond (decide (v3 < (args2.length : Int)))
  ((idx args2 v3).bind fun x5 =>
   (idx m4 v3).bind fun x6 =>
   some (.inl (IntKind.wrap .i64 (v3 + 1), m4.set v3.toNat x5.Dims)))
  (some (.inr m4))
def array_Do_l2 (fu : Nat) (args2 : List SArray) : Int × (List Int) × (List Int) → Option ((Int × (List Int) × (List Int)) ⊕ (Ex ((List Int) × (List Int)) (SArray × Int))) := fun (v10, m11, m12) =>
 cond (decide (v10 < (args2.length : Int)))
  ((idx args2 v10).bind fun x13 =>
   (array_Wrong fu x13).bind fun (r14 : Int) =>
   cond (r14 != 0)
    (some (.inr (.ret ((⟨([] : List Int), ([] : List Int)⟩ : SArray), r14))))
    (some (.inl (IntKind.wrap .i64 (v10 + 1), m11, m12))))
  (some (.inr (.brk (m11, m12))))
def array_Do (fu : Nat) (op1 : SOp) (args2 : List SArray) : Option (SArray × Int) :=
 (chk ((0 : Int) ≤ (args2.length : Int) ∧ (args2.length : Int) ≤ (args2.length : Int) ∧ ((24 : Nat) : Int) * (args2.length : Int) ≤ 281474976710656 ∧ (args2.length : Int) ≤ 9223372036854775807)).bind fun _ =>
 (loopF (array_Do_l1 fu args2) fu (0, List.replicate (Int.toNat (args2.length : Int)) ([] : List Int))).bind fun (m7 : List (List Int)) =>
 (array_many fu op1.Kind).bind fun (r8 : Int) =>
 cond (r8 == (-2))
  (some ((⟨([] : List Int), ([] : List Int)⟩ : SArray), 1))
  ((cond (decide (r8 ≥ 0)) (cond (r8 != (args2.length : Int)) (some true) (cond (r8 == (-1)) (some ((args2.length : Int) == 0)) (some false))) (cond (r8 == (-1)) (some ((args2.length : Int) == 0)) (some false))).bind fun (v9 : Bool) =>
   cond v9
    (some ((⟨([] : List Int), ([] : List Int)⟩ : SArray), 2))
    (bindE (fun r => r) (loopF (array_Do_l2 fu args2) fu (0, ([] : List Int), ([] : List Int)) : Option (Ex ((List Int) × (List Int)) (SArray × Int))) fun ((m15, m16) : (List Int) × (List Int)) =>
    (array_Dims fu op1 m7).bind fun ((r17, r18) : (List Int) × Int) =>
    cond (r18 != 0)
     (some ((⟨([] : List Int), ([] : List Int)⟩ : SArray), r18))
     ((view_Size fu r17).bind fun ((r19, r20) : Int × Int) =>
      (chk ((0 : Int) ≤ r19 ∧ r19 ≤ r19 ∧ ((8 : Nat) : Int) * r19 ≤ 281474976710656 ∧ r19 ≤ 9223372036854775807)).bind fun _ =>
      (array_fill fu op1 args2 r17 (List.replicate (Int.toNat r19) (0 : Int))).bind fun (r21 : List Int) =>
      bif Nat.beq (List.length r21) (List.length (List.replicate (Int.toNat r19) (0 : Int))) then
      some ((⟨r17, r21⟩ : SArray), 0)
      else none)))
def adjointlaw2_alive (fu : Nat) : Option (Bool) :=
 (array_Do fu (⟨3, ([] : List Int), ([] : List Int), ([] : List Int), ([] : List Int), ([] : List Int), 0⟩ : SOp) [(⟨([] : List Int), [2]⟩ : SArray), (⟨([] : List Int), [3]⟩ : SArray)]).bind fun ((r1, r2) : SArray × Int) =>
 (cond (r2 == 0) (cond ((r1.Data.length : Int) == 1) ((idx r1.Data 0).bind fun x3 =>
  some (x3 == 5)) (some false)) (some false)).bind fun (v4 : Bool) =>
 some v4
def adjointref2_Wrong (fu : Nat) (a1 : SArray) : Option (Int) :=
 (adjointref1_Size fu a1.Dims).bind fun ((r2, r3) : Int × Int) =>
 cond (r3 != 0)
  (some r3)
  (cond ((a1.Data.length : Int) != r2)
    (some 6)
    (some 0))
def adjointref1_Next_l1 (fu : Nat) (dims1 : List Int) : Int × (List Int) → Option ((Int × (List Int)) ⊕ (Ex (List Int) ((List Int) × Bool))) := fun (k3, m4) =>
 cond (decide (k3 ≥ 0))
  ((idx m4 k3).bind fun x5 =>
   (idx m4 k3).bind fun x6 =>
   (idx (m4.set k3.toNat (IntKind.wrap .i64 (x5 + 1))) k3).bind fun x7 =>
   (idx dims1 k3).bind fun x8 =>
   cond (decide (x7 < x8))
    (some (.inr (.ret (m4.set k3.toNat (IntKind.wrap .i64 (x5 + 1)), true))))
    ((idx (m4.set k3.toNat (IntKind.wrap .i64 (x5 + 1))) k3).bind fun x9 =>
    some (.inl (IntKind.wrap .i64 (k3 - 1), (m4.set k3.toNat (IntKind.wrap .i64 (x5 + 1))).set k3.toNat 0))))
  (some (.inr (.brk m4)))
def adjointref1_Next (fu : Nat) (dims1 : List Int) (at2 : List Int) : Option ((List Int) × Bool) :=
 (chk (([] : List Int).length + at2.length ≤ maxLen ∧ (([] : List Int).length + at2.length) * 8 ≤ 140737488355328)).bind fun _ =>
 bindE (fun r => r) (loopF (adjointref1_Next_l1 fu dims1) fu (IntKind.wrap .i64 ((dims1.length : Int) - 1), ([] : List Int) ++ at2) : Option (Ex (List Int) ((List Int) × Bool))) fun (m10 : List Int) =>
 some (m10, false)
def adjointref1_All_l1 (fu : Nat) (dims1 : List Int) : (List Int) × Bool × (List (List Int)) → Option (((List Int) × Bool × (List (List Int))) ⊕ (List (List Int))) := fun (at4, more5, m6) =>
 cond more5
  ((adjointref1_Next fu dims1 at4).bind fun ((r7, r8) : (List Int) × Bool) =>
   (cond r8
     ((chk (m6.length + [r7].length ≤ maxLen ∧ (m6.length + [r7].length) * 24 ≤ 140737488355328)).bind fun _ =>
     some (m6 ++ [r7]))
     (some m6)).bind fun (m9 : List (List Int)) =>
   some (.inl (r7, r8, m9)))
  (some (.inr m6))
def adjointref1_All (fu : Nat) (dims1 : List Int) : Option (List (List Int)) :=
 (adjointref1_Size fu dims1).bind fun ((r2, r3) : Int × Int) =>
 cond (r2 == 0)
  (some ([] : List (List Int)))
  ((chk ((0 : Int) ≤ (dims1.length : Int) ∧ (dims1.length : Int) ≤ (dims1.length : Int) ∧ ((8 : Nat) : Int) * (dims1.length : Int) ≤ 281474976710656 ∧ (dims1.length : Int) ≤ 9223372036854775807)).bind fun _ =>
   (loopF (adjointref1_All_l1 fu dims1) fu (List.replicate (Int.toNat (dims1.length : Int)) (0 : Int), true, [List.replicate (Int.toNat (dims1.length : Int)) (0 : Int)])).bind fun (m10 : List (List Int)) =>
   some m10)
def adjointref2_placed_l1 (fu : Nat) (at2 : List Int) (values3 : List Int) : Int × (List Int) → Option ((Int × (List Int)) ⊕ (List Int)) := fun (v6, m7) =>
 cond (decide (v6 < (at2.length : Int)))
  ((idx at2 v6).bind fun x8 =>
   (idx values3 v6).bind fun x9 =>
   (idx m7 x8).bind fun x10 =>
   some (.inl (IntKind.wrap .i64 (v6 + 1), m7.set x8.toNat x9)))
  (some (.inr m7))
def adjointref2_placed_l2 (fu : Nat) (at4 : List Int) (values5 : List Int) : Int × (List Int) → Option ((Int × (List Int)) ⊕ (List Int)) := fun (v12, m13) =>
 cond (decide (v12 < (at4.length : Int)))
  ((idx at4 v12).bind fun x14 =>
   (idx values5 v12).bind fun x15 =>
   (idx m13 x14).bind fun x16 =>
   some (.inl (IntKind.wrap .i64 (v12 + 1), m13.set x14.toNat x15)))
  (some (.inr m13))
def adjointref2_placed (fu : Nat) (rank1 : Int) (at2 : List Int) (values3 : List Int) (at4 : List Int) (values5 : List Int) : Option (List Int) :=
 (chk ((0 : Int) ≤ rank1 ∧ rank1 ≤ rank1 ∧ ((8 : Nat) : Int) * rank1 ≤ 281474976710656 ∧ rank1 ≤ 9223372036854775807)).bind fun _ =>
 (loopF (adjointref2_placed_l1 fu at2 values3) fu (0, List.replicate (Int.toNat rank1) (0 : Int))).bind fun (m11 : List Int) =>
 (loopF (adjointref2_placed_l2 fu at4 values5) fu (0, m11)).bind fun (m17 : List Int) =>
 some m17
def adjointref1_Lies_l1 (fu : Nat) (v1 : SView) (at2 : List Int) : Int × Int → Option ((Int × Int) ⊕ Int) := fun (n3, v4) =>
 cond (decide (v4 < (at2.length : Int)))
  ((idx at2 v4).bind fun x5 =>
   (idx v1.Steps v4).bind fun x6 =>
   some (.inl (IntKind.wrap .i64 (n3 + (IntKind.wrap .i64 (x5 * x6))), IntKind.wrap .i64 (v4 + 1))))
  (some (.inr n3))
def adjointref1_Lies (fu : Nat) (v1 : SView) (at2 : List Int) : Option (Int) :=
 (loopF (adjointref1_Lies_l1 fu v1 at2) fu (v1.Start, 0)).bind fun (n7 : Int) =>
 some n7
def adjointref1_Place_l1 (fu : Nat) (dims1 : List Int) (at2 : List Int) : Int → Option (Int ⊕ (Ex Unit (Int × Int))) := fun v5 =>
 cond (decide (v5 < (dims1.length : Int)))
  ((idx dims1 v5).bind fun x6 =>
   ((idx at2 v5).bind fun x7 =>
    cond (decide (x7 < 0)) (some true) ((idx at2 v5).bind fun x8 =>
    some (decide (x8 ≥ x6)))).bind fun (v9 : Bool) =>
   cond v9
    (some (.inr (.ret (0, 4))))
    (some (.inl (IntKind.wrap .i64 (v5 + 1)))))
  (some (.inr (.brk ())))
def adjointref1_Place (fu : Nat) (dims1 : List Int) (at2 : List Int) : Option (Int × Int) :=
 (adjointref1_Size fu dims1).bind fun ((r3, r4) : Int × Int) =>
 cond (r4 != 0)
  (some (0, r4))
  (cond ((at2.length : Int) != (dims1.length : Int))
    (some (0, 6))
    (bindE (fun r => r) (loopF (adjointref1_Place_l1 fu dims1 at2) fu 0 : Option (Ex Unit (Int × Int))) fun (_ : Unit) =>
    (adjointref1_Steps fu dims1).bind fun (r10 : List Int) =>
    (adjointref1_Lies fu (⟨0, dims1, r10⟩ : SView) at2).bind fun (r11 : Int) =>
    some (r11, 0)))
def adjointref2_Get (fu : Nat) (a1 : SArray) (at2 : List Int) : Option (Int) :=
 (adjointref1_Place fu a1.Dims at2).bind fun ((r3, r4) : Int × Int) =>
 (idx a1.Data r3).bind fun x5 =>
 some x5
def adjointref2_padEntry_l1 (fu : Nat) (op1 : SOp) (a2 : SArray) (at3 : List Int) : Int × (List Int) → Option ((Int × (List Int)) ⊕ (Ex (List Int) Int)) := fun (v4, m5) =>
 cond (decide (v4 < (at3.length : Int)))
  ((idx at3 v4).bind fun x6 =>
   (idx op1.Lo v4).bind fun x7 =>
   (cond (decide ((IntKind.wrap .i64 (x6 - x7)) < 0)) (some true) ((idx op1.Step v4).bind fun x8 =>
    (chk (x8 ≠ 0)).bind fun _ =>
    cond ((Int.tmod (IntKind.wrap .i64 (x6 - x7)) x8) != 0) (some true) ((idx op1.Step v4).bind fun x9 =>
    (chk (x9 ≠ 0)).bind fun _ =>
    (idx a2.Dims v4).bind fun x10 =>
    some (decide ((IntKind.wrap .i64 (Int.tdiv (IntKind.wrap .i64 (x6 - x7)) x9)) ≥ x10))))).bind fun (v11 : Bool) =>
   cond v11
    (some (.inr (.ret 0)))
    ((idx op1.Step v4).bind fun x12 =>
    (chk (x12 ≠ 0)).bind fun _ =>
    (idx m5 v4).bind fun x13 =>
    some (.inl (IntKind.wrap .i64 (v4 + 1), m5.set v4.toNat (IntKind.wrap .i64 (Int.tdiv (IntKind.wrap .i64 (x6 - x7)) x12))))))
  (some (.inr (.brk m5)))
def adjointref2_padEntry (fu : Nat) (op1 : SOp) (a2 : SArray) (at3 : List Int) : Option (Int) :=
 (chk ((0 : Int) ≤ (at3.length : Int) ∧ (at3.length : Int) ≤ (at3.length : Int) ∧ ((8 : Nat) : Int) * (at3.length : Int) ≤ 281474976710656 ∧ (at3.length : Int) ≤ 9223372036854775807)).bind fun _ =>
 bindE (fun r => r) (loopF (adjointref2_padEntry_l1 fu op1 a2 at3) fu (0, List.replicate (Int.toNat (at3.length : Int)) (0 : Int)) : Option (Ex (List Int) Int)) fun (m14 : List Int) =>
 (adjointref2_Get fu a2 m14).bind fun (r15 : Int) =>
 some r15
def adjointref2_dotEntry_l1 (fu : Nat) (op1 : SOp) (a2 : SArray) (b3 : SArray) (at4 : List Int) (r5 : List Int) (r6 : List Int) (r7 : List Int) (r8 : List Int) (r10 : List (List Int)) : Int × Int → Option ((Int × Int) ⊕ Int) := fun (s11, v12) =>
 cond (decide (v12 < (r10.length : Int)))
  ((idx r10 v12).bind fun x13 =>
   (adjointref2_both fu x13 (lpart at4 0 (op1.Lo.length : Int))).bind fun (r14 : List Int) =>
   (adjointref2_placed fu (a2.Dims.length : Int) r5 r14 r7 (lpart at4 (op1.Lo.length : Int) (IntKind.wrap .i64 ((op1.Lo.length : Int) + (r7.length : Int))))).bind fun (r15 : List Int) =>
   (adjointref2_Get fu a2 r15).bind fun (r16 : Int) =>
   (adjointref2_both fu x13 (lpart at4 0 (op1.Lo.length : Int))).bind fun (r17 : List Int) =>
   (adjointref2_placed fu (b3.Dims.length : Int) r6 r17 r8 (lpart at4 (IntKind.wrap .i64 ((op1.Lo.length : Int) + (r7.length : Int))) (at4.length : Int))).bind fun (r18 : List Int) =>
   (adjointref2_Get fu b3 r18).bind fun (r19 : Int) =>
   some (.inl (IntKind.wrap .i64 (s11 + (IntKind.wrap .i64 (r16 * r19))), IntKind.wrap .i64 (v12 + 1))))
  (some (.inr s11))
def adjointref2_dotEntry (fu : Nat) (op1 : SOp) (a2 : SArray) (b3 : SArray) (at4 : List Int) : Option (Int) :=
 (adjointref2_both fu op1.At op1.Lo).bind fun (r5 : List Int) =>
 (adjointref2_both fu op1.Step op1.Hi).bind fun (r6 : List Int) =>
 (adjointref2_Free fu a2.Dims r5).bind fun (r7 : List Int) =>
 (adjointref2_Free fu b3.Dims r6).bind fun (r8 : List Int) =>
 (chk ((0 : Int) ≤ (op1.Lo.length : Int) ∧ (op1.Lo.length : Int) ≤ (at4.length : Int))).bind fun _ =>
 (chk ((0 : Int) ≤ (op1.Lo.length : Int) ∧ (op1.Lo.length : Int) ≤ (IntKind.wrap .i64 ((op1.Lo.length : Int) + (r7.length : Int))) ∧ (IntKind.wrap .i64 ((op1.Lo.length : Int) + (r7.length : Int))) ≤ (at4.length : Int))).bind fun _ =>
 (chk ((0 : Int) ≤ (IntKind.wrap .i64 ((op1.Lo.length : Int) + (r7.length : Int))) ∧ (IntKind.wrap .i64 ((op1.Lo.length : Int) + (r7.length : Int))) ≤ (at4.length : Int))).bind fun _ =>
 (adjointref2_chosen fu a2.Dims op1.At).bind fun (r9 : List Int) =>
 (adjointref1_All fu r9).bind fun (r10 : List (List Int)) =>
 (loopF (adjointref2_dotEntry_l1 fu op1 a2 b3 at4 r5 r6 r7 r8 r10) fu (0, 0)).bind fun (s20 : Int) =>
 some s20
def adjointref2_joinEntry_l1 (fu : Nat) (args2 : List SArray) (at3 : List Int) (x4 : Int) : Int × Int → Option ((Int × Int) ⊕ (Ex Unit Int)) := fun (n6, v7) =>
 cond (decide (v7 < (args2.length : Int)))
  ((idx args2 v7).bind fun x8 =>
   (idx x8.Dims x4).bind fun x9 =>
   cond (decide (n6 < x9))
    ((amb (amb ((adjointref2_Free fu at3 [x4]).bind fun (r10 : List Int) =>
     amb (amb ((adjointref2_Free fu at3 [x4]).bind fun (r11 : List Int) =>
     amb ((adjointref2_chosen fu at3 r11).bind fun (r12 : List Int) =>
     amb2 ((adjointref2_placed fu (at3.length : Int) r10 r12 [x4] [n6]).bind fun (r13 : List Int) =>
     (adjointref2_Get fu x8 r13).bind fun (r14 : Int) =>
     some r14)) (amb (amb2 ((adjointref2_chosen fu at3 r11).bind fun (r12 : List Int) =>
     (adjointref2_placed fu (at3.length : Int) r10 r12 [x4] [n6]).bind fun (r13 : List Int) =>
     (adjointref2_Get fu x8 r13).bind fun (r14 : Int) =>
     some r14)) (amb2 ((adjointref2_chosen fu at3 r11).bind fun (r12 : List Int) =>
     (adjointref2_placed fu (at3.length : Int) r10 r12 [x4] [n6]).bind fun (r13 : List Int) =>
     (adjointref2_Get fu x8 r13).bind fun (r14 : Int) =>
     some r14)))) (amb (amb ((adjointref2_Free fu at3 [x4]).bind fun (r11 : List Int) =>
     amb2 ((adjointref2_chosen fu at3 r11).bind fun (r12 : List Int) =>
     (adjointref2_placed fu (at3.length : Int) r10 r12 [x4] [n6]).bind fun (r13 : List Int) =>
     (adjointref2_Get fu x8 r13).bind fun (r14 : Int) =>
     some r14)) ((adjointref2_Free fu at3 [x4]).bind fun (r11 : List Int) =>
     (adjointref2_chosen fu at3 r11).bind fun (r12 : List Int) =>
     (adjointref2_placed fu (at3.length : Int) r10 r12 [x4] [n6]).bind fun (r13 : List Int) =>
     (adjointref2_Get fu x8 r13).bind fun (r14 : Int) =>
     some r14)) (amb ((adjointref2_Free fu at3 [x4]).bind fun (r11 : List Int) =>
     amb2 ((adjointref2_chosen fu at3 r11).bind fun (r12 : List Int) =>
     (adjointref2_placed fu (at3.length : Int) r10 r12 [x4] [n6]).bind fun (r13 : List Int) =>
     (adjointref2_Get fu x8 r13).bind fun (r14 : Int) =>
     some r14)) ((adjointref2_Free fu at3 [x4]).bind fun (r11 : List Int) =>
     (adjointref2_chosen fu at3 r11).bind fun (r12 : List Int) =>
     (adjointref2_placed fu (at3.length : Int) r10 r12 [x4] [n6]).bind fun (r13 : List Int) =>
     (adjointref2_Get fu x8 r13).bind fun (r14 : Int) =>
     some r14)))) (amb (amb (amb ((adjointref2_Free fu at3 [x4]).bind fun (r11 : List Int) =>
     amb2 ((adjointref2_chosen fu at3 r11).bind fun (r12 : List Int) =>
     (adjointref2_placed fu (at3.length : Int) r10 r12 [x4] [n6]).bind fun (r13 : List Int) =>
     (adjointref2_Get fu x8 r13).bind fun (r14 : Int) =>
     some r14)) ((adjointref2_Free fu at3 [x4]).bind fun (r11 : List Int) =>
     (adjointref2_chosen fu at3 r11).bind fun (r12 : List Int) =>
     (adjointref2_placed fu (at3.length : Int) r10 r12 [x4] [n6]).bind fun (r13 : List Int) =>
     (adjointref2_Get fu x8 r13).bind fun (r14 : Int) =>
     some r14)) ((adjointref2_Free fu at3 [x4]).bind fun (r11 : List Int) =>
     (adjointref2_chosen fu at3 r11).bind fun (r12 : List Int) =>
     (adjointref2_placed fu (at3.length : Int) r10 r12 [x4] [n6]).bind fun (r13 : List Int) =>
     (adjointref2_Get fu x8 r13).bind fun (r14 : Int) =>
     some r14)) (amb (amb ((adjointref2_Free fu at3 [x4]).bind fun (r11 : List Int) =>
     amb2 ((adjointref2_chosen fu at3 r11).bind fun (r12 : List Int) =>
     (adjointref2_placed fu (at3.length : Int) r10 r12 [x4] [n6]).bind fun (r13 : List Int) =>
     (adjointref2_Get fu x8 r13).bind fun (r14 : Int) =>
     some r14)) ((adjointref2_Free fu at3 [x4]).bind fun (r11 : List Int) =>
     (adjointref2_chosen fu at3 r11).bind fun (r12 : List Int) =>
     (adjointref2_placed fu (at3.length : Int) r10 r12 [x4] [n6]).bind fun (r13 : List Int) =>
     (adjointref2_Get fu x8 r13).bind fun (r14 : Int) =>
     some r14)) ((adjointref2_Free fu at3 [x4]).bind fun (r11 : List Int) =>
     (adjointref2_chosen fu at3 r11).bind fun (r12 : List Int) =>
     (adjointref2_placed fu (at3.length : Int) r10 r12 [x4] [n6]).bind fun (r13 : List Int) =>
     (adjointref2_Get fu x8 r13).bind fun (r14 : Int) =>
     some r14)))) (amb (amb ((adjointref2_Free fu at3 [x4]).bind fun (r10 : List Int) =>
     amb ((adjointref2_Free fu at3 [x4]).bind fun (r11 : List Int) =>
     amb ((adjointref2_chosen fu at3 r11).bind fun (r12 : List Int) =>
     amb2 ((adjointref2_placed fu (at3.length : Int) r10 r12 [x4] [n6]).bind fun (r13 : List Int) =>
     (adjointref2_Get fu x8 r13).bind fun (r14 : Int) =>
     some r14)) (amb (amb2 ((adjointref2_chosen fu at3 r11).bind fun (r12 : List Int) =>
     (adjointref2_placed fu (at3.length : Int) r10 r12 [x4] [n6]).bind fun (r13 : List Int) =>
     (adjointref2_Get fu x8 r13).bind fun (r14 : Int) =>
     some r14)) (amb2 ((adjointref2_chosen fu at3 r11).bind fun (r12 : List Int) =>
     (adjointref2_placed fu (at3.length : Int) r10 r12 [x4] [n6]).bind fun (r13 : List Int) =>
     (adjointref2_Get fu x8 r13).bind fun (r14 : Int) =>
     some r14)))) (amb (amb ((adjointref2_Free fu at3 [x4]).bind fun (r11 : List Int) =>
     amb2 ((adjointref2_chosen fu at3 r11).bind fun (r12 : List Int) =>
     (adjointref2_placed fu (at3.length : Int) r10 r12 [x4] [n6]).bind fun (r13 : List Int) =>
     (adjointref2_Get fu x8 r13).bind fun (r14 : Int) =>
     some r14)) ((adjointref2_Free fu at3 [x4]).bind fun (r11 : List Int) =>
     (adjointref2_chosen fu at3 r11).bind fun (r12 : List Int) =>
     (adjointref2_placed fu (at3.length : Int) r10 r12 [x4] [n6]).bind fun (r13 : List Int) =>
     (adjointref2_Get fu x8 r13).bind fun (r14 : Int) =>
     some r14)) (amb ((adjointref2_Free fu at3 [x4]).bind fun (r11 : List Int) =>
     amb2 ((adjointref2_chosen fu at3 r11).bind fun (r12 : List Int) =>
     (adjointref2_placed fu (at3.length : Int) r10 r12 [x4] [n6]).bind fun (r13 : List Int) =>
     (adjointref2_Get fu x8 r13).bind fun (r14 : Int) =>
     some r14)) ((adjointref2_Free fu at3 [x4]).bind fun (r11 : List Int) =>
     (adjointref2_chosen fu at3 r11).bind fun (r12 : List Int) =>
     (adjointref2_placed fu (at3.length : Int) r10 r12 [x4] [n6]).bind fun (r13 : List Int) =>
     (adjointref2_Get fu x8 r13).bind fun (r14 : Int) =>
     some r14)))) (amb (amb ((adjointref2_Free fu at3 [x4]).bind fun (r10 : List Int) =>
     amb ((adjointref2_Free fu at3 [x4]).bind fun (r11 : List Int) =>
     amb2 ((adjointref2_chosen fu at3 r11).bind fun (r12 : List Int) =>
     (adjointref2_placed fu (at3.length : Int) r10 r12 [x4] [n6]).bind fun (r13 : List Int) =>
     (adjointref2_Get fu x8 r13).bind fun (r14 : Int) =>
     some r14)) ((adjointref2_Free fu at3 [x4]).bind fun (r11 : List Int) =>
     (adjointref2_chosen fu at3 r11).bind fun (r12 : List Int) =>
     (adjointref2_placed fu (at3.length : Int) r10 r12 [x4] [n6]).bind fun (r13 : List Int) =>
     (adjointref2_Get fu x8 r13).bind fun (r14 : Int) =>
     some r14)) ((adjointref2_Free fu at3 [x4]).bind fun (r10 : List Int) =>
     (adjointref2_Free fu at3 [x4]).bind fun (r11 : List Int) =>
     (adjointref2_chosen fu at3 r11).bind fun (r12 : List Int) =>
     (adjointref2_placed fu (at3.length : Int) r10 r12 [x4] [n6]).bind fun (r13 : List Int) =>
     (adjointref2_Get fu x8 r13).bind fun (r14 : Int) =>
     some r14)) (amb ((adjointref2_Free fu at3 [x4]).bind fun (r10 : List Int) =>
     amb ((adjointref2_Free fu at3 [x4]).bind fun (r11 : List Int) =>
     amb2 ((adjointref2_chosen fu at3 r11).bind fun (r12 : List Int) =>
     (adjointref2_placed fu (at3.length : Int) r10 r12 [x4] [n6]).bind fun (r13 : List Int) =>
     (adjointref2_Get fu x8 r13).bind fun (r14 : Int) =>
     some r14)) ((adjointref2_Free fu at3 [x4]).bind fun (r11 : List Int) =>
     (adjointref2_chosen fu at3 r11).bind fun (r12 : List Int) =>
     (adjointref2_placed fu (at3.length : Int) r10 r12 [x4] [n6]).bind fun (r13 : List Int) =>
     (adjointref2_Get fu x8 r13).bind fun (r14 : Int) =>
     some r14)) ((adjointref2_Free fu at3 [x4]).bind fun (r10 : List Int) =>
     (adjointref2_Free fu at3 [x4]).bind fun (r11 : List Int) =>
     (adjointref2_chosen fu at3 r11).bind fun (r12 : List Int) =>
     (adjointref2_placed fu (at3.length : Int) r10 r12 [x4] [n6]).bind fun (r13 : List Int) =>
     (adjointref2_Get fu x8 r13).bind fun (r14 : Int) =>
     some r14)))) (amb (amb ((adjointref2_Free fu at3 [x4]).bind fun (r10 : List Int) =>
     amb (amb ((adjointref2_Free fu at3 [x4]).bind fun (r11 : List Int) =>
     amb2 ((adjointref2_chosen fu at3 r11).bind fun (r12 : List Int) =>
     (adjointref2_placed fu (at3.length : Int) r10 r12 [x4] [n6]).bind fun (r13 : List Int) =>
     (adjointref2_Get fu x8 r13).bind fun (r14 : Int) =>
     some r14)) ((adjointref2_Free fu at3 [x4]).bind fun (r11 : List Int) =>
     (adjointref2_chosen fu at3 r11).bind fun (r12 : List Int) =>
     (adjointref2_placed fu (at3.length : Int) r10 r12 [x4] [n6]).bind fun (r13 : List Int) =>
     (adjointref2_Get fu x8 r13).bind fun (r14 : Int) =>
     some r14)) ((adjointref2_Free fu at3 [x4]).bind fun (r11 : List Int) =>
     (adjointref2_chosen fu at3 r11).bind fun (r12 : List Int) =>
     (adjointref2_placed fu (at3.length : Int) r10 r12 [x4] [n6]).bind fun (r13 : List Int) =>
     (adjointref2_Get fu x8 r13).bind fun (r14 : Int) =>
     some r14)) (amb (amb ((adjointref2_Free fu at3 [x4]).bind fun (r10 : List Int) =>
     amb ((adjointref2_Free fu at3 [x4]).bind fun (r11 : List Int) =>
     amb2 ((adjointref2_chosen fu at3 r11).bind fun (r12 : List Int) =>
     (adjointref2_placed fu (at3.length : Int) r10 r12 [x4] [n6]).bind fun (r13 : List Int) =>
     (adjointref2_Get fu x8 r13).bind fun (r14 : Int) =>
     some r14)) ((adjointref2_Free fu at3 [x4]).bind fun (r11 : List Int) =>
     (adjointref2_chosen fu at3 r11).bind fun (r12 : List Int) =>
     (adjointref2_placed fu (at3.length : Int) r10 r12 [x4] [n6]).bind fun (r13 : List Int) =>
     (adjointref2_Get fu x8 r13).bind fun (r14 : Int) =>
     some r14)) ((adjointref2_Free fu at3 [x4]).bind fun (r10 : List Int) =>
     (adjointref2_Free fu at3 [x4]).bind fun (r11 : List Int) =>
     (adjointref2_chosen fu at3 r11).bind fun (r12 : List Int) =>
     (adjointref2_placed fu (at3.length : Int) r10 r12 [x4] [n6]).bind fun (r13 : List Int) =>
     (adjointref2_Get fu x8 r13).bind fun (r14 : Int) =>
     some r14)) (amb2 ((adjointref2_Free fu at3 [x4]).bind fun (r10 : List Int) =>
     (adjointref2_Free fu at3 [x4]).bind fun (r11 : List Int) =>
     (adjointref2_chosen fu at3 r11).bind fun (r12 : List Int) =>
     (adjointref2_placed fu (at3.length : Int) r10 r12 [x4] [n6]).bind fun (r13 : List Int) =>
     (adjointref2_Get fu x8 r13).bind fun (r14 : Int) =>
     some r14)))) (amb ((adjointref2_Free fu at3 [x4]).bind fun (r10 : List Int) =>
     amb (amb ((adjointref2_Free fu at3 [x4]).bind fun (r11 : List Int) =>
     amb2 ((adjointref2_chosen fu at3 r11).bind fun (r12 : List Int) =>
     (adjointref2_placed fu (at3.length : Int) r10 r12 [x4] [n6]).bind fun (r13 : List Int) =>
     (adjointref2_Get fu x8 r13).bind fun (r14 : Int) =>
     some r14)) ((adjointref2_Free fu at3 [x4]).bind fun (r11 : List Int) =>
     (adjointref2_chosen fu at3 r11).bind fun (r12 : List Int) =>
     (adjointref2_placed fu (at3.length : Int) r10 r12 [x4] [n6]).bind fun (r13 : List Int) =>
     (adjointref2_Get fu x8 r13).bind fun (r14 : Int) =>
     some r14)) ((adjointref2_Free fu at3 [x4]).bind fun (r11 : List Int) =>
     (adjointref2_chosen fu at3 r11).bind fun (r12 : List Int) =>
     (adjointref2_placed fu (at3.length : Int) r10 r12 [x4] [n6]).bind fun (r13 : List Int) =>
     (adjointref2_Get fu x8 r13).bind fun (r14 : Int) =>
     some r14)) (amb (amb ((adjointref2_Free fu at3 [x4]).bind fun (r10 : List Int) =>
     amb ((adjointref2_Free fu at3 [x4]).bind fun (r11 : List Int) =>
     amb2 ((adjointref2_chosen fu at3 r11).bind fun (r12 : List Int) =>
     (adjointref2_placed fu (at3.length : Int) r10 r12 [x4] [n6]).bind fun (r13 : List Int) =>
     (adjointref2_Get fu x8 r13).bind fun (r14 : Int) =>
     some r14)) ((adjointref2_Free fu at3 [x4]).bind fun (r11 : List Int) =>
     (adjointref2_chosen fu at3 r11).bind fun (r12 : List Int) =>
     (adjointref2_placed fu (at3.length : Int) r10 r12 [x4] [n6]).bind fun (r13 : List Int) =>
     (adjointref2_Get fu x8 r13).bind fun (r14 : Int) =>
     some r14)) ((adjointref2_Free fu at3 [x4]).bind fun (r10 : List Int) =>
     (adjointref2_Free fu at3 [x4]).bind fun (r11 : List Int) =>
     (adjointref2_chosen fu at3 r11).bind fun (r12 : List Int) =>
     (adjointref2_placed fu (at3.length : Int) r10 r12 [x4] [n6]).bind fun (r13 : List Int) =>
     (adjointref2_Get fu x8 r13).bind fun (r14 : Int) =>
     some r14)) (amb2 ((adjointref2_Free fu at3 [x4]).bind fun (r10 : List Int) =>
     (adjointref2_Free fu at3 [x4]).bind fun (r11 : List Int) =>
     (adjointref2_chosen fu at3 r11).bind fun (r12 : List Int) =>
     (adjointref2_placed fu (at3.length : Int) r10 r12 [x4] [n6]).bind fun (r13 : List Int) =>
     (adjointref2_Get fu x8 r13).bind fun (r14 : Int) =>
     some r14))))))) (amb (amb (amb ((adjointref2_Free fu at3 [x4]).bind fun (r10 : List Int) =>
     amb ((adjointref2_Free fu at3 [x4]).bind fun (r11 : List Int) =>
     amb ((adjointref2_chosen fu at3 r11).bind fun (r12 : List Int) =>
     amb2 ((adjointref2_placed fu (at3.length : Int) r10 r12 [x4] [n6]).bind fun (r13 : List Int) =>
     (adjointref2_Get fu x8 r13).bind fun (r14 : Int) =>
     some r14)) (amb (amb2 ((adjointref2_chosen fu at3 r11).bind fun (r12 : List Int) =>
     (adjointref2_placed fu (at3.length : Int) r10 r12 [x4] [n6]).bind fun (r13 : List Int) =>
     (adjointref2_Get fu x8 r13).bind fun (r14 : Int) =>
     some r14)) (amb2 ((adjointref2_chosen fu at3 r11).bind fun (r12 : List Int) =>
     (adjointref2_placed fu (at3.length : Int) r10 r12 [x4] [n6]).bind fun (r13 : List Int) =>
     (adjointref2_Get fu x8 r13).bind fun (r14 : Int) =>
     some r14)))) (amb (amb ((adjointref2_Free fu at3 [x4]).bind fun (r11 : List Int) =>
     amb2 ((adjointref2_chosen fu at3 r11).bind fun (r12 : List Int) =>
     (adjointref2_placed fu (at3.length : Int) r10 r12 [x4] [n6]).bind fun (r13 : List Int) =>
     (adjointref2_Get fu x8 r13).bind fun (r14 : Int) =>
     some r14)) ((adjointref2_Free fu at3 [x4]).bind fun (r11 : List Int) =>
     (adjointref2_chosen fu at3 r11).bind fun (r12 : List Int) =>
     (adjointref2_placed fu (at3.length : Int) r10 r12 [x4] [n6]).bind fun (r13 : List Int) =>
     (adjointref2_Get fu x8 r13).bind fun (r14 : Int) =>
     some r14)) (amb ((adjointref2_Free fu at3 [x4]).bind fun (r11 : List Int) =>
     amb2 ((adjointref2_chosen fu at3 r11).bind fun (r12 : List Int) =>
     (adjointref2_placed fu (at3.length : Int) r10 r12 [x4] [n6]).bind fun (r13 : List Int) =>
     (adjointref2_Get fu x8 r13).bind fun (r14 : Int) =>
     some r14)) ((adjointref2_Free fu at3 [x4]).bind fun (r11 : List Int) =>
     (adjointref2_chosen fu at3 r11).bind fun (r12 : List Int) =>
     (adjointref2_placed fu (at3.length : Int) r10 r12 [x4] [n6]).bind fun (r13 : List Int) =>
     (adjointref2_Get fu x8 r13).bind fun (r14 : Int) =>
     some r14)))) (amb (amb ((adjointref2_Free fu at3 [x4]).bind fun (r10 : List Int) =>
     amb ((adjointref2_Free fu at3 [x4]).bind fun (r11 : List Int) =>
     amb2 ((adjointref2_chosen fu at3 r11).bind fun (r12 : List Int) =>
     (adjointref2_placed fu (at3.length : Int) r10 r12 [x4] [n6]).bind fun (r13 : List Int) =>
     (adjointref2_Get fu x8 r13).bind fun (r14 : Int) =>
     some r14)) ((adjointref2_Free fu at3 [x4]).bind fun (r11 : List Int) =>
     (adjointref2_chosen fu at3 r11).bind fun (r12 : List Int) =>
     (adjointref2_placed fu (at3.length : Int) r10 r12 [x4] [n6]).bind fun (r13 : List Int) =>
     (adjointref2_Get fu x8 r13).bind fun (r14 : Int) =>
     some r14)) ((adjointref2_Free fu at3 [x4]).bind fun (r10 : List Int) =>
     (adjointref2_Free fu at3 [x4]).bind fun (r11 : List Int) =>
     (adjointref2_chosen fu at3 r11).bind fun (r12 : List Int) =>
     (adjointref2_placed fu (at3.length : Int) r10 r12 [x4] [n6]).bind fun (r13 : List Int) =>
     (adjointref2_Get fu x8 r13).bind fun (r14 : Int) =>
     some r14)) (amb ((adjointref2_Free fu at3 [x4]).bind fun (r10 : List Int) =>
     amb ((adjointref2_Free fu at3 [x4]).bind fun (r11 : List Int) =>
     amb2 ((adjointref2_chosen fu at3 r11).bind fun (r12 : List Int) =>
     (adjointref2_placed fu (at3.length : Int) r10 r12 [x4] [n6]).bind fun (r13 : List Int) =>
     (adjointref2_Get fu x8 r13).bind fun (r14 : Int) =>
     some r14)) ((adjointref2_Free fu at3 [x4]).bind fun (r11 : List Int) =>
     (adjointref2_chosen fu at3 r11).bind fun (r12 : List Int) =>
     (adjointref2_placed fu (at3.length : Int) r10 r12 [x4] [n6]).bind fun (r13 : List Int) =>
     (adjointref2_Get fu x8 r13).bind fun (r14 : Int) =>
     some r14)) ((adjointref2_Free fu at3 [x4]).bind fun (r10 : List Int) =>
     (adjointref2_Free fu at3 [x4]).bind fun (r11 : List Int) =>
     (adjointref2_chosen fu at3 r11).bind fun (r12 : List Int) =>
     (adjointref2_placed fu (at3.length : Int) r10 r12 [x4] [n6]).bind fun (r13 : List Int) =>
     (adjointref2_Get fu x8 r13).bind fun (r14 : Int) =>
     some r14)))) (amb (amb (amb ((adjointref2_Free fu at3 [x4]).bind fun (r10 : List Int) =>
     amb ((adjointref2_Free fu at3 [x4]).bind fun (r11 : List Int) =>
     amb2 ((adjointref2_chosen fu at3 r11).bind fun (r12 : List Int) =>
     (adjointref2_placed fu (at3.length : Int) r10 r12 [x4] [n6]).bind fun (r13 : List Int) =>
     (adjointref2_Get fu x8 r13).bind fun (r14 : Int) =>
     some r14)) ((adjointref2_Free fu at3 [x4]).bind fun (r11 : List Int) =>
     (adjointref2_chosen fu at3 r11).bind fun (r12 : List Int) =>
     (adjointref2_placed fu (at3.length : Int) r10 r12 [x4] [n6]).bind fun (r13 : List Int) =>
     (adjointref2_Get fu x8 r13).bind fun (r14 : Int) =>
     some r14)) ((adjointref2_Free fu at3 [x4]).bind fun (r10 : List Int) =>
     (adjointref2_Free fu at3 [x4]).bind fun (r11 : List Int) =>
     (adjointref2_chosen fu at3 r11).bind fun (r12 : List Int) =>
     (adjointref2_placed fu (at3.length : Int) r10 r12 [x4] [n6]).bind fun (r13 : List Int) =>
     (adjointref2_Get fu x8 r13).bind fun (r14 : Int) =>
     some r14)) ((adjointref2_Free fu at3 [x4]).bind fun (r10 : List Int) =>
     (adjointref2_Free fu at3 [x4]).bind fun (r11 : List Int) =>
     (adjointref2_chosen fu at3 r11).bind fun (r12 : List Int) =>
     (adjointref2_placed fu (at3.length : Int) r10 r12 [x4] [n6]).bind fun (r13 : List Int) =>
     (adjointref2_Get fu x8 r13).bind fun (r14 : Int) =>
     some r14)) (amb (amb ((adjointref2_Free fu at3 [x4]).bind fun (r10 : List Int) =>
     amb ((adjointref2_Free fu at3 [x4]).bind fun (r11 : List Int) =>
     amb2 ((adjointref2_chosen fu at3 r11).bind fun (r12 : List Int) =>
     (adjointref2_placed fu (at3.length : Int) r10 r12 [x4] [n6]).bind fun (r13 : List Int) =>
     (adjointref2_Get fu x8 r13).bind fun (r14 : Int) =>
     some r14)) ((adjointref2_Free fu at3 [x4]).bind fun (r11 : List Int) =>
     (adjointref2_chosen fu at3 r11).bind fun (r12 : List Int) =>
     (adjointref2_placed fu (at3.length : Int) r10 r12 [x4] [n6]).bind fun (r13 : List Int) =>
     (adjointref2_Get fu x8 r13).bind fun (r14 : Int) =>
     some r14)) ((adjointref2_Free fu at3 [x4]).bind fun (r10 : List Int) =>
     (adjointref2_Free fu at3 [x4]).bind fun (r11 : List Int) =>
     (adjointref2_chosen fu at3 r11).bind fun (r12 : List Int) =>
     (adjointref2_placed fu (at3.length : Int) r10 r12 [x4] [n6]).bind fun (r13 : List Int) =>
     (adjointref2_Get fu x8 r13).bind fun (r14 : Int) =>
     some r14)) ((adjointref2_Free fu at3 [x4]).bind fun (r10 : List Int) =>
     (adjointref2_Free fu at3 [x4]).bind fun (r11 : List Int) =>
     (adjointref2_chosen fu at3 r11).bind fun (r12 : List Int) =>
     (adjointref2_placed fu (at3.length : Int) r10 r12 [x4] [n6]).bind fun (r13 : List Int) =>
     (adjointref2_Get fu x8 r13).bind fun (r14 : Int) =>
     some r14)))) (amb (amb (amb ((adjointref2_Free fu at3 [x4]).bind fun (r10 : List Int) =>
     amb (amb ((adjointref2_Free fu at3 [x4]).bind fun (r11 : List Int) =>
     amb2 ((adjointref2_chosen fu at3 r11).bind fun (r12 : List Int) =>
     (adjointref2_placed fu (at3.length : Int) r10 r12 [x4] [n6]).bind fun (r13 : List Int) =>
     (adjointref2_Get fu x8 r13).bind fun (r14 : Int) =>
     some r14)) ((adjointref2_Free fu at3 [x4]).bind fun (r11 : List Int) =>
     (adjointref2_chosen fu at3 r11).bind fun (r12 : List Int) =>
     (adjointref2_placed fu (at3.length : Int) r10 r12 [x4] [n6]).bind fun (r13 : List Int) =>
     (adjointref2_Get fu x8 r13).bind fun (r14 : Int) =>
     some r14)) ((adjointref2_Free fu at3 [x4]).bind fun (r11 : List Int) =>
     (adjointref2_chosen fu at3 r11).bind fun (r12 : List Int) =>
     (adjointref2_placed fu (at3.length : Int) r10 r12 [x4] [n6]).bind fun (r13 : List Int) =>
     (adjointref2_Get fu x8 r13).bind fun (r14 : Int) =>
     some r14)) (amb (amb ((adjointref2_Free fu at3 [x4]).bind fun (r10 : List Int) =>
     amb ((adjointref2_Free fu at3 [x4]).bind fun (r11 : List Int) =>
     amb2 ((adjointref2_chosen fu at3 r11).bind fun (r12 : List Int) =>
     (adjointref2_placed fu (at3.length : Int) r10 r12 [x4] [n6]).bind fun (r13 : List Int) =>
     (adjointref2_Get fu x8 r13).bind fun (r14 : Int) =>
     some r14)) ((adjointref2_Free fu at3 [x4]).bind fun (r11 : List Int) =>
     (adjointref2_chosen fu at3 r11).bind fun (r12 : List Int) =>
     (adjointref2_placed fu (at3.length : Int) r10 r12 [x4] [n6]).bind fun (r13 : List Int) =>
     (adjointref2_Get fu x8 r13).bind fun (r14 : Int) =>
     some r14)) ((adjointref2_Free fu at3 [x4]).bind fun (r10 : List Int) =>
     (adjointref2_Free fu at3 [x4]).bind fun (r11 : List Int) =>
     (adjointref2_chosen fu at3 r11).bind fun (r12 : List Int) =>
     (adjointref2_placed fu (at3.length : Int) r10 r12 [x4] [n6]).bind fun (r13 : List Int) =>
     (adjointref2_Get fu x8 r13).bind fun (r14 : Int) =>
     some r14)) (amb2 ((adjointref2_Free fu at3 [x4]).bind fun (r10 : List Int) =>
     (adjointref2_Free fu at3 [x4]).bind fun (r11 : List Int) =>
     (adjointref2_chosen fu at3 r11).bind fun (r12 : List Int) =>
     (adjointref2_placed fu (at3.length : Int) r10 r12 [x4] [n6]).bind fun (r13 : List Int) =>
     (adjointref2_Get fu x8 r13).bind fun (r14 : Int) =>
     some r14)))) (amb (amb (amb ((adjointref2_Free fu at3 [x4]).bind fun (r10 : List Int) =>
     amb ((adjointref2_Free fu at3 [x4]).bind fun (r11 : List Int) =>
     amb2 ((adjointref2_chosen fu at3 r11).bind fun (r12 : List Int) =>
     (adjointref2_placed fu (at3.length : Int) r10 r12 [x4] [n6]).bind fun (r13 : List Int) =>
     (adjointref2_Get fu x8 r13).bind fun (r14 : Int) =>
     some r14)) ((adjointref2_Free fu at3 [x4]).bind fun (r11 : List Int) =>
     (adjointref2_chosen fu at3 r11).bind fun (r12 : List Int) =>
     (adjointref2_placed fu (at3.length : Int) r10 r12 [x4] [n6]).bind fun (r13 : List Int) =>
     (adjointref2_Get fu x8 r13).bind fun (r14 : Int) =>
     some r14)) ((adjointref2_Free fu at3 [x4]).bind fun (r10 : List Int) =>
     (adjointref2_Free fu at3 [x4]).bind fun (r11 : List Int) =>
     (adjointref2_chosen fu at3 r11).bind fun (r12 : List Int) =>
     (adjointref2_placed fu (at3.length : Int) r10 r12 [x4] [n6]).bind fun (r13 : List Int) =>
     (adjointref2_Get fu x8 r13).bind fun (r14 : Int) =>
     some r14)) ((adjointref2_Free fu at3 [x4]).bind fun (r10 : List Int) =>
     (adjointref2_Free fu at3 [x4]).bind fun (r11 : List Int) =>
     (adjointref2_chosen fu at3 r11).bind fun (r12 : List Int) =>
     (adjointref2_placed fu (at3.length : Int) r10 r12 [x4] [n6]).bind fun (r13 : List Int) =>
     (adjointref2_Get fu x8 r13).bind fun (r14 : Int) =>
     some r14)) (amb (amb2 ((adjointref2_Free fu at3 [x4]).bind fun (r10 : List Int) =>
     (adjointref2_Free fu at3 [x4]).bind fun (r11 : List Int) =>
     (adjointref2_chosen fu at3 r11).bind fun (r12 : List Int) =>
     (adjointref2_placed fu (at3.length : Int) r10 r12 [x4] [n6]).bind fun (r13 : List Int) =>
     (adjointref2_Get fu x8 r13).bind fun (r14 : Int) =>
     some r14)) ((adjointref2_Free fu at3 [x4]).bind fun (r10 : List Int) =>
     (adjointref2_Free fu at3 [x4]).bind fun (r11 : List Int) =>
     (adjointref2_chosen fu at3 r11).bind fun (r12 : List Int) =>
     (adjointref2_placed fu (at3.length : Int) r10 r12 [x4] [n6]).bind fun (r13 : List Int) =>
     (adjointref2_Get fu x8 r13).bind fun (r14 : Int) =>
     some r14)))) (amb (amb ((adjointref2_Free fu at3 [x4]).bind fun (r10 : List Int) =>
     amb (amb ((adjointref2_Free fu at3 [x4]).bind fun (r11 : List Int) =>
     amb2 ((adjointref2_chosen fu at3 r11).bind fun (r12 : List Int) =>
     (adjointref2_placed fu (at3.length : Int) r10 r12 [x4] [n6]).bind fun (r13 : List Int) =>
     (adjointref2_Get fu x8 r13).bind fun (r14 : Int) =>
     some r14)) ((adjointref2_Free fu at3 [x4]).bind fun (r11 : List Int) =>
     (adjointref2_chosen fu at3 r11).bind fun (r12 : List Int) =>
     (adjointref2_placed fu (at3.length : Int) r10 r12 [x4] [n6]).bind fun (r13 : List Int) =>
     (adjointref2_Get fu x8 r13).bind fun (r14 : Int) =>
     some r14)) ((adjointref2_Free fu at3 [x4]).bind fun (r11 : List Int) =>
     (adjointref2_chosen fu at3 r11).bind fun (r12 : List Int) =>
     (adjointref2_placed fu (at3.length : Int) r10 r12 [x4] [n6]).bind fun (r13 : List Int) =>
     (adjointref2_Get fu x8 r13).bind fun (r14 : Int) =>
     some r14)) (amb (amb ((adjointref2_Free fu at3 [x4]).bind fun (r10 : List Int) =>
     amb ((adjointref2_Free fu at3 [x4]).bind fun (r11 : List Int) =>
     amb2 ((adjointref2_chosen fu at3 r11).bind fun (r12 : List Int) =>
     (adjointref2_placed fu (at3.length : Int) r10 r12 [x4] [n6]).bind fun (r13 : List Int) =>
     (adjointref2_Get fu x8 r13).bind fun (r14 : Int) =>
     some r14)) ((adjointref2_Free fu at3 [x4]).bind fun (r11 : List Int) =>
     (adjointref2_chosen fu at3 r11).bind fun (r12 : List Int) =>
     (adjointref2_placed fu (at3.length : Int) r10 r12 [x4] [n6]).bind fun (r13 : List Int) =>
     (adjointref2_Get fu x8 r13).bind fun (r14 : Int) =>
     some r14)) ((adjointref2_Free fu at3 [x4]).bind fun (r10 : List Int) =>
     (adjointref2_Free fu at3 [x4]).bind fun (r11 : List Int) =>
     (adjointref2_chosen fu at3 r11).bind fun (r12 : List Int) =>
     (adjointref2_placed fu (at3.length : Int) r10 r12 [x4] [n6]).bind fun (r13 : List Int) =>
     (adjointref2_Get fu x8 r13).bind fun (r14 : Int) =>
     some r14)) (amb2 ((adjointref2_Free fu at3 [x4]).bind fun (r10 : List Int) =>
     (adjointref2_Free fu at3 [x4]).bind fun (r11 : List Int) =>
     (adjointref2_chosen fu at3 r11).bind fun (r12 : List Int) =>
     (adjointref2_placed fu (at3.length : Int) r10 r12 [x4] [n6]).bind fun (r13 : List Int) =>
     (adjointref2_Get fu x8 r13).bind fun (r14 : Int) =>
     some r14)))) (amb (amb (amb ((adjointref2_Free fu at3 [x4]).bind fun (r10 : List Int) =>
     amb ((adjointref2_Free fu at3 [x4]).bind fun (r11 : List Int) =>
     amb2 ((adjointref2_chosen fu at3 r11).bind fun (r12 : List Int) =>
     (adjointref2_placed fu (at3.length : Int) r10 r12 [x4] [n6]).bind fun (r13 : List Int) =>
     (adjointref2_Get fu x8 r13).bind fun (r14 : Int) =>
     some r14)) ((adjointref2_Free fu at3 [x4]).bind fun (r11 : List Int) =>
     (adjointref2_chosen fu at3 r11).bind fun (r12 : List Int) =>
     (adjointref2_placed fu (at3.length : Int) r10 r12 [x4] [n6]).bind fun (r13 : List Int) =>
     (adjointref2_Get fu x8 r13).bind fun (r14 : Int) =>
     some r14)) ((adjointref2_Free fu at3 [x4]).bind fun (r10 : List Int) =>
     (adjointref2_Free fu at3 [x4]).bind fun (r11 : List Int) =>
     (adjointref2_chosen fu at3 r11).bind fun (r12 : List Int) =>
     (adjointref2_placed fu (at3.length : Int) r10 r12 [x4] [n6]).bind fun (r13 : List Int) =>
     (adjointref2_Get fu x8 r13).bind fun (r14 : Int) =>
     some r14)) ((adjointref2_Free fu at3 [x4]).bind fun (r10 : List Int) =>
     (adjointref2_Free fu at3 [x4]).bind fun (r11 : List Int) =>
     (adjointref2_chosen fu at3 r11).bind fun (r12 : List Int) =>
     (adjointref2_placed fu (at3.length : Int) r10 r12 [x4] [n6]).bind fun (r13 : List Int) =>
     (adjointref2_Get fu x8 r13).bind fun (r14 : Int) =>
     some r14)) (amb (amb2 ((adjointref2_Free fu at3 [x4]).bind fun (r10 : List Int) =>
     (adjointref2_Free fu at3 [x4]).bind fun (r11 : List Int) =>
     (adjointref2_chosen fu at3 r11).bind fun (r12 : List Int) =>
     (adjointref2_placed fu (at3.length : Int) r10 r12 [x4] [n6]).bind fun (r13 : List Int) =>
     (adjointref2_Get fu x8 r13).bind fun (r14 : Int) =>
     some r14)) ((adjointref2_Free fu at3 [x4]).bind fun (r10 : List Int) =>
     (adjointref2_Free fu at3 [x4]).bind fun (r11 : List Int) =>
     (adjointref2_chosen fu at3 r11).bind fun (r12 : List Int) =>
     (adjointref2_placed fu (at3.length : Int) r10 r12 [x4] [n6]).bind fun (r13 : List Int) =>
     (adjointref2_Get fu x8 r13).bind fun (r14 : Int) =>
     some r14))))))).bind fun (v15 : Int) =>
    some (.inr (.ret v15)))
    ((idx x8.Dims x4).bind fun x16 =>
    some (.inl (IntKind.wrap .i64 (n6 - x16), IntKind.wrap .i64 (v7 + 1)))))
  (some (.inr (.brk ())))
def adjointref2_joinEntry (fu : Nat) (op1 : SOp) (args2 : List SArray) (at3 : List Int) : Option (Int) :=
 (idx op1.At 0).bind fun x4 =>
 (idx at3 x4).bind fun x5 =>
 bindE (fun r => r) (loopF (adjointref2_joinEntry_l1 fu args2 at3 x4) fu (x5, 0) : Option (Ex Unit Int)) fun (_ : Unit) =>
 some 0
def adjointref2_putEntry_l1 (fu : Nat) (y1 : SArray) (idx2 : SArray) (at3 : List Int) (r4 : List (List Int)) : Int × Int → Option ((Int × Int) ⊕ Int) := fun (s5, v6) =>
 cond (decide (v6 < (r4.length : Int)))
  ((idx r4 v6).bind fun x7 =>
   (idx at3 0).bind fun x8 =>
   (adjointref2_Get fu idx2 x7).bind fun (r9 : Int) =>
   (cond (r9 == x8)
     ((chk ((0 : Int) ≤ 1 ∧ 1 ≤ (at3.length : Int))).bind fun _ =>
     (adjointref2_both fu x7 (lpart at3 1 (at3.length : Int))).bind fun (r10 : List Int) =>
     (adjointref2_Get fu y1 r10).bind fun (r11 : Int) =>
     some (IntKind.wrap .i64 (s5 + r11)))
     (some s5)).bind fun (s12 : Int) =>
   some (.inl (s12, IntKind.wrap .i64 (v6 + 1))))
  (some (.inr s5))
def adjointref2_putEntry (fu : Nat) (y1 : SArray) (idx2 : SArray) (at3 : List Int) : Option (Int) :=
 (adjointref1_All fu idx2.Dims).bind fun (r4 : List (List Int)) =>
 (loopF (adjointref2_putEntry_l1 fu y1 idx2 at3 r4) fu (0, 0)).bind fun (s13 : Int) =>
 some s13
def adjointref2_viewEntry_l1 (fu : Nat) (op1 : SOp) (at3 : List Int) : Int × (List Int) → Option ((Int × (List Int)) ⊕ (List Int)) := fun (v4, m5) =>
 cond (decide (v4 < (op1.At.length : Int)))
  ((idx op1.At v4).bind fun x6 =>
   (idx at3 x6).bind fun x7 =>
   (idx m5 v4).bind fun x8 =>
   some (.inl (IntKind.wrap .i64 (v4 + 1), m5.set v4.toNat x7)))
  (some (.inr m5))
def adjointref2_viewEntry_l2 (fu : Nat) (op1 : SOp) (at3 : List Int) : Int × (List Int) → Option ((Int × (List Int)) ⊕ (List Int)) := fun (v10, m11) =>
 cond (decide (v10 < (op1.At.length : Int)))
  ((idx op1.At v10).bind fun x12 =>
   (idx at3 v10).bind fun x13 =>
   (idx m11 x12).bind fun x14 =>
   some (.inl (IntKind.wrap .i64 (v10 + 1), m11.set x12.toNat x13)))
  (some (.inr m11))
def adjointref2_viewEntry_l3 (fu : Nat) (op1 : SOp) (at3 : List Int) : Int × (List Int) → Option ((Int × (List Int)) ⊕ (List Int)) := fun (v16, m17) =>
 cond (decide (v16 < (at3.length : Int)))
  ((idx op1.Lo v16).bind fun x18 =>
   (idx at3 v16).bind fun x19 =>
   (idx op1.Step v16).bind fun x20 =>
   (idx m17 v16).bind fun x21 =>
   some (.inl (IntKind.wrap .i64 (v16 + 1), m17.set v16.toNat (IntKind.wrap .i64 (x18 + (IntKind.wrap .i64 (x19 * x20)))))))
  (some (.inr m17))
def adjointref2_viewEntry_l4 (fu : Nat) (op1 : SOp) (a2 : SArray) (at3 : List Int) : Int × (List Int) → Option ((Int × (List Int)) ⊕ (List Int)) := fun (v23, m24) =>
 cond (decide (v23 < (at3.length : Int)))
  ((idx at3 v23).bind fun x25 =>
   (idx m24 v23).bind fun x26 =>
   (adjointref2_has fu op1.At v23).bind fun (r27 : Bool) =>
   (cond r27
     ((idx a2.Dims v23).bind fun x28 =>
     (idx at3 v23).bind fun x29 =>
     (idx (m24.set v23.toNat x25) v23).bind fun x30 =>
     some ((m24.set v23.toNat x25).set v23.toNat (IntKind.wrap .i64 ((IntKind.wrap .i64 (x28 - 1)) - x29))))
     (some (m24.set v23.toNat x25))).bind fun (m31 : List Int) =>
   some (.inl (IntKind.wrap .i64 (v23 + 1), m31)))
  (some (.inr m24))
def adjointref2_viewEntry (fu : Nat) (op1 : SOp) (a2 : SArray) (at3 : List Int) : Option (Int) :=
 (chk ((0 : Int) ≤ (a2.Dims.length : Int) ∧ (a2.Dims.length : Int) ≤ (a2.Dims.length : Int) ∧ ((8 : Nat) : Int) * (a2.Dims.length : Int) ≤ 281474976710656 ∧ (a2.Dims.length : Int) ≤ 9223372036854775807)).bind fun _ =>
 (cond (op1.Kind == 9)
   ((loopF (adjointref2_viewEntry_l1 fu op1 at3) fu (0, List.replicate (Int.toNat (a2.Dims.length : Int)) (0 : Int))).bind fun (m9 : List Int) =>
    some m9)
   ((cond (op1.Kind == 11)
      ((loopF (adjointref2_viewEntry_l2 fu op1 at3) fu (0, List.replicate (Int.toNat (a2.Dims.length : Int)) (0 : Int))).bind fun (m15 : List Int) =>
      some m15)
      ((cond (op1.Kind == 13)
        ((loopF (adjointref2_viewEntry_l3 fu op1 at3) fu (0, List.replicate (Int.toNat (a2.Dims.length : Int)) (0 : Int))).bind fun (m22 : List Int) =>
         some m22)
        ((loopF (adjointref2_viewEntry_l4 fu op1 a2 at3) fu (0, List.replicate (Int.toNat (a2.Dims.length : Int)) (0 : Int))).bind fun (m32 : List Int) =>
         some m32)).bind fun (m33 : List Int) =>
      some m33)).bind fun (m34 : List Int) =>
    some m34)).bind fun (m35 : List Int) =>
 (adjointref2_Get fu a2 m35).bind fun (r36 : Int) =>
 some r36
def adjointref2_entry_l1 (fu : Nat) (op1 : SOp) (args2 : List SArray) (at3 : List Int) (r36 : List Int) (r39 : List (List Int)) : Int × Int → Option ((Int × Int) ⊕ Int) := fun (s40, v41) =>
 cond (decide (v41 < (r39.length : Int)))
  ((idx r39 v41).bind fun x42 =>
   (idx args2 0).bind fun x43 =>
   (idx args2 0).bind fun x44 =>
   (adjointref2_placed fu (x44.Dims.length : Int) op1.At x42 r36 at3).bind fun (r45 : List Int) =>
   (adjointref2_Get fu x43 r45).bind fun (r46 : Int) =>
   some (.inl (IntKind.wrap .i64 (s40 + r46), IntKind.wrap .i64 (v41 + 1))))
  (some (.inr s40))
def adjointref2_entry (fu : Nat) (op1 : SOp) (args2 : List SArray) (at3 : List Int) (n4 : Int) : Option (Int) :=
 cond (op1.Kind == 2)
  (some op1.Value)
  (cond (op1.Kind == 3)
    ((idx args2 0).bind fun x5 =>
    (idx x5.Data n4).bind fun x6 =>
    (idx args2 1).bind fun x7 =>
    (idx x7.Data n4).bind fun x8 =>
    some (IntKind.wrap .i64 (x6 + x8)))
    (cond (op1.Kind == 4)
     ((idx args2 0).bind fun x9 =>
      (idx x9.Data n4).bind fun x10 =>
      (idx args2 1).bind fun x11 =>
      (idx x11.Data n4).bind fun x12 =>
      some (IntKind.wrap .i64 (x10 - x12)))
     (cond (op1.Kind == 5)
       ((idx args2 0).bind fun x13 =>
       (idx x13.Data n4).bind fun x14 =>
       (idx args2 1).bind fun x15 =>
       (idx x15.Data n4).bind fun x16 =>
       some (IntKind.wrap .i64 (x14 * x16)))
       (cond (op1.Kind == 6)
        ((idx args2 0).bind fun x17 =>
         (idx x17.Data n4).bind fun x18 =>
         (idx args2 1).bind fun x19 =>
         (idx x19.Data n4).bind fun x20 =>
         cond (decide (x18 < x20))
          ((idx args2 1).bind fun x21 =>
          (idx x21.Data n4).bind fun x22 =>
          some x22)
          ((idx args2 0).bind fun x23 =>
          (idx x23.Data n4).bind fun x24 =>
          some x24))
        (cond (op1.Kind == 7)
          ((idx args2 0).bind fun x25 =>
          (idx x25.Data n4).bind fun x26 =>
          (idx args2 1).bind fun x27 =>
          (idx x27.Data n4).bind fun x28 =>
          cond (decide (x26 < x28))
           (some 1)
           (some 0))
          (cond (op1.Kind == 8)
           ((idx args2 0).bind fun x29 =>
            (idx x29.Data n4).bind fun x30 =>
            cond (x30 != 0)
             ((idx args2 1).bind fun x31 =>
             (idx x31.Data n4).bind fun x32 =>
             some x32)
             ((idx args2 2).bind fun x33 =>
             (idx x33.Data n4).bind fun x34 =>
             some x34))
           (cond (op1.Kind == 10)
             ((idx args2 0).bind fun x35 =>
             (adjointref2_Free fu x35.Dims op1.At).bind fun (r36 : List Int) =>
             (idx args2 0).bind fun x37 =>
             (adjointref2_chosen fu x37.Dims op1.At).bind fun (r38 : List Int) =>
             (adjointref1_All fu r38).bind fun (r39 : List (List Int)) =>
             (loopF (adjointref2_entry_l1 fu op1 args2 at3 r36 r39) fu (0, 0)).bind fun (s47 : Int) =>
             some s47)
             (cond (op1.Kind == 12)
              ((idx args2 0).bind fun x48 =>
               (idx x48.Data n4).bind fun x49 =>
               some x49)
              (cond (op1.Kind == 14)
                ((idx args2 0).bind fun x50 =>
                (adjointref2_padEntry fu op1 x50 at3).bind fun (r51 : Int) =>
                some r51)
                (cond (op1.Kind == 16)
                 ((idx args2 0).bind fun x52 =>
                  (idx args2 1).bind fun x53 =>
                  (adjointref2_dotEntry fu op1 x52 x53 at3).bind fun (r54 : Int) =>
                  some r54)
                 (cond (op1.Kind == 17)
                   ((adjointref2_joinEntry fu op1 args2 at3).bind fun (r55 : Int) =>
                   some r55)
                   (cond (op1.Kind == 18)
                    ((idx args2 1).bind fun x56 =>
                     (idx args2 1).bind fun x57 =>
                     (chk ((0 : Int) ≤ (x57.Dims.length : Int) ∧ (x57.Dims.length : Int) ≤ (at3.length : Int))).bind fun _ =>
                     (adjointref2_Get fu x56 (lpart at3 0 (x57.Dims.length : Int))).bind fun (r58 : Int) =>
                     (cond (decide (r58 < 0)) (some true) ((idx args2 0).bind fun x59 =>
                      (idx x59.Dims 0).bind fun x60 =>
                      some (decide (r58 ≥ x60)))).bind fun (v61 : Bool) =>
                     cond v61
                      (some 0)
                      ((idx args2 0).bind fun x62 =>
                      (idx args2 1).bind fun x63 =>
                      (chk ((0 : Int) ≤ (x63.Dims.length : Int) ∧ (x63.Dims.length : Int) ≤ (at3.length : Int))).bind fun _ =>
                      (adjointref2_both fu [r58] (lpart at3 (x63.Dims.length : Int) (at3.length : Int))).bind fun (r64 : List Int) =>
                      (adjointref2_Get fu x62 r64).bind fun (r65 : Int) =>
                      some r65))
                    (cond (op1.Kind == 19)
                      ((idx args2 0).bind fun x66 =>
                      (idx args2 1).bind fun x67 =>
                      (adjointref2_putEntry fu x66 x67 at3).bind fun (r68 : Int) =>
                      some r68)
                      ((idx args2 0).bind fun x69 =>
                      (adjointref2_viewEntry fu op1 x69 at3).bind fun (r70 : Int) =>
                      some r70))))))))))))))
def adjointref2_Do_l1 (fu : Nat) (args2 : List SArray) : Int × (List Int) × (List Int) × (List (List Int)) → Option ((Int × (List Int) × (List Int) × (List (List Int))) ⊕ (Ex ((List Int) × (List Int) × (List (List Int))) (SArray × Int))) := fun (v4, m5, m6, m7) =>
 cond (decide (v4 < (args2.length : Int)))
  ((idx args2 v4).bind fun x8 =>
   (adjointref2_Wrong fu x8).bind fun (r9 : Int) =>
   cond (r9 != 0)
    (some (.inr (.ret ((⟨([] : List Int), ([] : List Int)⟩ : SArray), r9))))
    ((chk (m7.length + [x8.Dims].length ≤ maxLen ∧ (m7.length + [x8.Dims].length) * 24 ≤ 140737488355328)).bind fun _ =>
    some (.inl (IntKind.wrap .i64 (v4 + 1), m5, m6, m7 ++ [x8.Dims]))))
  (some (.inr (.brk (m5, m6, m7))))
def adjointref2_Do_l2 (fu : Nat) (op1 : SOp) (args2 : List SArray) (r15 : List (List Int)) : Int × (List Int) × (List Int) → Option ((Int × (List Int) × (List Int)) ⊕ ((List Int) × (List Int))) := fun (v16, m17, m18) =>
 cond (decide (v16 < (r15.length : Int)))
  ((idx r15 v16).bind fun x19 =>
   (amb ((adjointref2_entry fu op1 args2 x19 v16).bind fun (r20 : Int) =>
    (chk (m18.length + [r20].length ≤ maxLen ∧ (m18.length + [r20].length) * 8 ≤ 140737488355328)).bind fun _ =>
    some (m18 ++ [r20], m17)) ((adjointref2_entry fu op1 args2 x19 v16).bind fun (r20 : Int) =>
    amb2 ((chk (m18.length + [r20].length ≤ maxLen ∧ (m18.length + [r20].length) * 8 ≤ 140737488355328)).bind fun _ =>
    some (m18 ++ [r20], m17)))).bind fun ((m21, m22) : (List Int) × (List Int)) =>
   some (.inl (IntKind.wrap .i64 (v16 + 1), m22, m21)))
  (some (.inr (m17, m18)))
def adjointref2_Do (fu : Nat) (op1 : SOp) (args2 : List SArray) : Option (SArray × Int) :=
 (adjointref2_Right fu op1 (args2.length : Int)).bind fun (r3 : Int) =>
 cond (r3 != 0)
  (some ((⟨([] : List Int), ([] : List Int)⟩ : SArray), r3))
  (bindE (fun r => r) (loopF (adjointref2_Do_l1 fu args2) fu (0, ([] : List Int), ([] : List Int), ([] : List (List Int))) : Option (Ex ((List Int) × (List Int) × (List (List Int))) (SArray × Int))) fun ((m10, m11, m12) : (List Int) × (List Int) × (List (List Int))) =>
   (adjointref2_Dims fu op1 m12).bind fun ((r13, r14) : (List Int) × Int) =>
   cond (r14 != 0)
    (some ((⟨([] : List Int), ([] : List Int)⟩ : SArray), r14))
    ((adjointref1_All fu r13).bind fun (r15 : List (List Int)) =>
    (loopF (adjointref2_Do_l2 fu op1 args2 r15) fu (0, r13, ([] : List Int))).bind fun ((m23, m24) : (List Int) × (List Int)) =>
    some ((⟨m23, m24⟩ : SArray), 0)))
def array_Inner_l1 (fu : Nat) (a1 : SArray) (b2 : SArray) : Int × Int → Option ((Int × Int) ⊕ Int) := fun (s6, v7) =>
 cond (decide (v7 < (a1.Data.length : Int)))
  ((idx a1.Data v7).bind fun x8 =>
   (idx b2.Data v7).bind fun x9 =>
   some (.inl (IntKind.wrap .i64 (s6 + (IntKind.wrap .i64 (x8 * x9))), IntKind.wrap .i64 (v7 + 1))))
  (some (.inr s6))
def array_Inner (fu : Nat) (a1 : SArray) (b2 : SArray) : Option (Int × Int) :=
 (array_Wrong fu a1).bind fun (r3 : Int) =>
 cond (r3 != 0)
  (some (0, r3))
  ((array_Wrong fu b2).bind fun (r4 : Int) =>
   cond (r4 != 0)
    (some (0, r4))
    ((slices_Equal fu a1.Dims b2.Dims).bind fun (r5 : Bool) =>
    cond (!r5)
     (some (0, 6))
     ((loopF (array_Inner_l1 fu a1 b2) fu (0, 0)).bind fun (s10 : Int) =>
      some (s10, 0))))
def adjointlaw2_ArrayRows (fu : Nat) (a1 : SArray) (b2 : SArray) (y3 : List Int) : Option (Bool) :=
 (adjointlaw2_alive fu).bind fun (r4 : Bool) =>
 cond (!r4)
  (some false)
  ((adjointref2_Do fu (⟨18, ([] : List Int), ([] : List Int), ([] : List Int), ([] : List Int), ([] : List Int), 0⟩ : SOp) [a1, b2]).bind fun ((r5, r6) : SArray × Int) =>
   cond (r6 != 0)
    (some true)
    ((array_Do fu (⟨18, ([] : List Int), ([] : List Int), ([] : List Int), ([] : List Int), ([] : List Int), 0⟩ : SOp) [a1, b2]).bind fun ((r7, r8) : SArray × Int) =>
    cond (r8 != 0)
     (some false)
     ((amb2 ((chk ((0 : Int) ≤ (r7.Data.length : Int) ∧ (r7.Data.length : Int) ≤ (r7.Data.length : Int) ∧ ((8 : Nat) : Int) * (r7.Data.length : Int) ≤ 281474976710656 ∧ (r7.Data.length : Int) ≤ 9223372036854775807)).bind fun _ =>
       some (r7.Dims, List.replicate (Int.toNat (r7.Data.length : Int)) (0 : Int)))).bind fun ((m9, m10) : (List Int) × (List Int)) =>
      (chk (0 + m10.length ≤ m10.length)).bind fun _ =>
      ((chk ((0 : Int) ≤ 1 ∧ 1 ≤ (a1.Dims.length : Int))).bind fun _ =>
       amb (amb2 ((array_Do fu (⟨19, lpart a1.Dims 0 1, ([] : List Int), ([] : List Int), ([] : List Int), ([] : List Int), 0⟩ : SOp) [(⟨m9, cpy m10 y3 0 m10.length⟩ : SArray), b2]).bind fun ((r11, r12) : SArray × Int) =>
       some (r12, r11.Dims, r11.Data))) ((array_Do fu (⟨19, lpart a1.Dims 0 1, ([] : List Int), ([] : List Int), ([] : List Int), ([] : List Int), 0⟩ : SOp) [(⟨m9, cpy m10 y3 0 m10.length⟩ : SArray), b2]).bind fun ((r11, r12) : SArray × Int) =>
       some (r12, r11.Dims, r11.Data))).bind fun ((e13, m14, m15) : Int × (List Int) × (List Int)) =>
      (cond (e13 != 0) (some true) ((adjointref2_SameList fu m14 a1.Dims).bind fun (r16 : Bool) =>
       some (!r16))).bind fun (v17 : Bool) =>
      cond v17
       (some false)
       ((array_Inner fu r7 (⟨m9, cpy m10 y3 0 m10.length⟩ : SArray)).bind fun ((r18, r19) : Int × Int) =>
       (array_Inner fu a1 (⟨m14, m15⟩ : SArray)).bind fun ((r20, r21) : Int × Int) =>
       (cond (r19 == 0) (cond (r21 == 0) (some (r18 == r20)) (some false)) (some false)).bind fun (v22 : Bool) =>
       some v22))))
end F
end
end Go.DN
