/-
  The functions, as Lean functions over data.
-/
import Derived.Test.YtfkigaldejbeiaaOrS
set_option maxRecDepth 20000
set_option linter.unusedVariables false
set_option linter.unusedSectionVars false
set_option linter.unusedSimpArgs false
namespace Go.DN
open Go.AM
noncomputable section
namespace F
def nest_Wrong_1 (fu : Nat) (s1 : Int) : Option (Bool) :=
  (cond (decide (s1 < 0)) (some true) (some (decide (s1 > 65536)))).bind fun (v2 : Bool) =>
  some v2
def slices_IndexFunc_l1 (fu : Nat) (s1 : List Int) : Int → Option (Int ⊕ (Ex Unit Int)) := fun v2 =>
  cond (decide (v2 < (s1.length : Int)))
    ((idx s1 v2).bind fun x3 =>
     (nest_Wrong_1 fu x3).bind fun (r4 : Bool) =>
     cond r4
       (some (.inr (.ret v2)))
       (some (.inl (IntKind.wrap .i64 (v2 + 1)))))
    (some (.inr (.brk ())))
def slices_IndexFunc (fu : Nat) (s1 : List Int) : Option (Int) :=
  bindE (fun r => r) (loopF (slices_IndexFunc_l1 fu s1) fu 0 : Option (Ex Unit Int)) fun (_ : Unit) =>
  some (-1)
def slices_ContainsFunc (fu : Nat) (s1 : List Int) : Option (Bool) :=
  (slices_IndexFunc fu s1).bind fun (r2 : Int) =>
  some (decide (r2 ≥ 0))
def points_Row_1 (fu : Nat) (n1 : Int) : Option (Bool) :=
  (cond (decide (n1 < (-1048576))) (some true) (some (decide (n1 > 1048576)))).bind fun (v2 : Bool) =>
  some v2
def slices_IndexFunc_2_l1 (fu : Nat) (s1 : List Int) : Int → Option (Int ⊕ (Ex Unit Int)) := fun v2 =>
  cond (decide (v2 < (s1.length : Int)))
    ((idx s1 v2).bind fun x3 =>
     (points_Row_1 fu x3).bind fun (r4 : Bool) =>
     cond r4
       (some (.inr (.ret v2)))
       (some (.inl (IntKind.wrap .i64 (v2 + 1)))))
    (some (.inr (.brk ())))
def slices_IndexFunc_2 (fu : Nat) (s1 : List Int) : Option (Int) :=
  bindE (fun r => r) (loopF (slices_IndexFunc_2_l1 fu s1) fu 0 : Option (Ex Unit Int)) fun (_ : Unit) =>
  some (-1)
def slices_ContainsFunc_2 (fu : Nat) (s1 : List Int) : Option (Bool) :=
  (slices_IndexFunc_2 fu s1).bind fun (r2 : Int) =>
  some (decide (r2 ≥ 0))
def points_Row (fu : Nat) (r1 : SRow) (vars2 : Int) : Option (Int) :=
  cond ((r1.Coef.length : Int) != vars2)
    (some 6)
    (((points_Row_1 fu r1.Const).bind fun (r3 : Bool) =>
       cond r3 (some true) ((slices_ContainsFunc_2 fu r1.Coef).bind fun (r4 : Bool) =>
       some r4)).bind fun (v5 : Bool) =>
     cond v5
       (some 4)
       (some 0))
def points_Wrong_l1 (fu : Nat) (p1 : SPoints) : Int → Option (Int ⊕ (Ex Unit Int)) := fun v2 =>
  cond (decide (v2 < (p1.Box.length : Int)))
    ((idx p1.Box v2).bind fun x3 =>
     (cond (decide (x3 < 0)) (some true) (some (decide (x3 > 4096)))).bind fun (v4 : Bool) =>
     cond v4
       (some (.inr (.ret 4)))
       (some (.inl (IntKind.wrap .i64 (v2 + 1)))))
    (some (.inr (.brk ())))
def points_Wrong_l2 (fu : Nat) (p1 : SPoints) : Int × Int → Option ((Int × Int) ⊕ Int) := fun (n5, v6) =>
  cond (decide (v6 < (p1.Box.length : Int)))
    ((idx p1.Box v6).bind fun x7 =>
     some (.inl (IntKind.wrap .i64 (n5 * x7), IntKind.wrap .i64 (v6 + 1))))
    (some (.inr n5))
def points_Wrong_l3 (fu : Nat) (p1 : SPoints) : Int → Option (Int ⊕ (Ex Unit Int)) := fun v9 =>
  cond (decide (v9 < (p1.Rows.length : Int)))
    ((idx p1.Rows v9).bind fun x10 =>
     (points_Row fu x10 (p1.Box.length : Int)).bind fun (r11 : Int) =>
     cond (r11 != 0)
       (some (.inr (.ret r11)))
       (some (.inl (IntKind.wrap .i64 (v9 + 1)))))
    (some (.inr (.brk ())))
def points_Wrong (fu : Nat) (p1 : SPoints) : Option (Int) :=
  cond (decide ((p1.Box.length : Int) > 4))
    (some 3)
    (bindE (fun r => r) (loopF (points_Wrong_l1 fu p1) fu 0 : Option (Ex Unit Int)) fun (_ : Unit) =>
     (loopF (points_Wrong_l2 fu p1) fu (1, 0)).bind fun (n8 : Int) =>
     cond (decide (n8 > 4096))
       (some 5)
       (cond (decide ((p1.Rows.length : Int) > 8))
          (some 2)
          (bindE (fun r => r) (loopF (points_Wrong_l3 fu p1) fu 0 : Option (Ex Unit Int)) fun (_ : Unit) =>
           some 0)))
def nest_gets (fu : Nat) (do1 : Int) : Option (Int) :=
  cond (do1 == 1)
    (some 0)
    ((cond (do1 == 2)
         (some (do1 == 2))
         (some (do1 == 9))).bind fun (v2 : Bool) =>
     cond v2
       (some 1)
       ((cond (do1 == 3)
            (some (do1 == 3))
            ((cond (do1 == 4)
                 (some (do1 == 4))
                 ((cond (do1 == 5)
                      (some (do1 == 5))
                      ((cond (do1 == 6)
                           (some (do1 == 6))
                           ((cond (do1 == 7)
                                (some (do1 == 7))
                                (some (do1 == 10))).bind fun (v3 : Bool) =>
                            some v3)).bind fun (v4 : Bool) =>
                       some v4)).bind fun (v5 : Bool) =>
                  some v5)).bind fun (v6 : Bool) =>
             some v6)).bind fun (v7 : Bool) =>
        cond v7
          (some 2)
          (cond (do1 == 8)
             (some 3)
             (some (-1)))))
def nest_statement_l1 (fu : Nat) (n1 : SNest) (s2 : SStmt) : Int → Option (Int ⊕ (Ex Unit Int)) := fun v5 =>
  cond (decide (v5 < (([s2.Put] ++ s2.Get).length : Int)))
    ((idx ([s2.Put] ++ s2.Get) v5).bind fun x6 =>
     (cond (decide (x6.Array < 0)) (some true) (some (decide (x6.Array ≥ (n1.Sizes.length : Int))))).bind fun (v7 : Bool) =>
     cond v7
       (some (.inr (.ret 4)))
       ((points_Row fu x6.At (s2.Over.Box.length : Int)).bind fun (r8 : Int) =>
        cond (r8 != 0)
          (some (.inr (.ret r8)))
          (some (.inl (IntKind.wrap .i64 (v5 + 1))))))
    (some (.inr (.brk ())))
def nest_statement (fu : Nat) (n1 : SNest) (s2 : SStmt) : Option (Int) :=
  (points_Wrong fu s2.Over).bind fun (r3 : Int) =>
  cond (r3 != 0)
    (some r3)
    ((nest_gets fu s2.Do).bind fun (r4 : Int) =>
     cond (decide (r4 < 0))
       (some 1)
       (cond (r4 != (s2.Get.length : Int))
          (some 2)
          ((chk ([s2.Put].length + s2.Get.length ≤ maxLen ∧ ([s2.Put].length + s2.Get.length) * 40 ≤ 140737488355328)).bind fun _ =>
           bindE (fun r => r) (loopF (nest_statement_l1 fu n1 s2) fu 0 : Option (Ex Unit Int)) fun (_ : Unit) =>
           some 0)))
def nest_Wrong_l1 (fu : Nat) (n1 : SNest) : Int → Option (Int ⊕ (Ex Unit Int)) := fun v3 =>
  cond (decide (v3 < (n1.Stmts.length : Int)))
    ((idx n1.Stmts v3).bind fun x4 =>
     (nest_statement fu n1 (⟨(⟨x4.Over.Box, x4.Over.Rows⟩ : SPoints), x4.Do, x4.Value, (⟨x4.Put.Array, (⟨x4.Put.At.Coef, x4.Put.At.Const⟩ : SRow)⟩ : SAccess), x4.Get⟩ : SStmt)).bind fun (r5 : Int) =>
     cond (r5 != 0)
       (some (.inr (.ret r5)))
       (some (.inl (IntKind.wrap .i64 (v3 + 1)))))
    (some (.inr (.brk ())))
def nest_Wrong (fu : Nat) (n1 : SNest) : Option (Int) :=
  cond (decide ((n1.Stmts.length : Int) > 256))
    (some 2)
    ((slices_ContainsFunc fu n1.Sizes).bind fun (r2 : Bool) =>
     cond r2
       (some 4)
       (bindE (fun r => r) (loopF (nest_Wrong_l1 fu n1) fu 0 : Option (Ex Unit Int)) fun (_ : Unit) =>
        some 0))
def order_Strip_1 (fu : Nat) (r1 : SRow) (v2 : Int) (v3 : Int) : Option (SRow) :=
  (chk ((0 : Int) ≤ v2 ∧ v2 ≤ (r1.Coef.length : Int))).bind fun _ =>
  (idx r1.Coef v2).bind fun x4 =>
  (chk ((0 : Int) ≤ v2 ∧ v2 ≤ (r1.Coef.length : Int))).bind fun _ =>
  (Go.Proofs.Ytfkigaldejbeiaa.F.slices_Concat fu [lpart r1.Coef 0 v2, [IntKind.wrap .i64 (x4 * v3)], lpart r1.Coef v2 (r1.Coef.length : Int)]).bind fun (r5 : List Int) =>
  some (⟨r5, r1.Const⟩ : SRow)
def slices_Clone (fu : Nat) (s1 : List Int) : Option (List Int) :=
  nilF (s1.length : Int) (some ([] : List Int)) ((chk (([] : List Int).length + s1.length ≤ maxLen ∧ (([] : List Int).length + s1.length) * 8 ≤ 140737488355328)).bind fun _ =>
  some (([] : List Int) ++ s1))
def order_own_1 (fu : Nat) (r1 : SRow) : Option (SRow) :=
  (slices_Clone fu r1.Coef).bind fun (r2 : List Int) =>
  some (⟨r2, r1.Const⟩ : SRow)
def order_own_l1 (fu : Nat) (s1 : SStmt) : Int × (List SRow) × (List Int) × Int × Int × Int × (List Int) × Int → Option ((Int × (List SRow) × (List Int) × Int × Int × Int × (List Int) × Int) ⊕ ((List SRow) × (List Int) × Int × Int × Int × (List Int) × Int)) := fun (v13, m14, m15, m16, m17, m18, m19, m20) =>
  cond (decide (v13 < (s1.Over.Rows.length : Int)))
    ((idx s1.Over.Rows v13).bind fun x21 =>
     (amb ((order_own_1 fu x21).bind fun (r22 : SRow) =>
       (chk (m14.length + [r22].length ≤ maxLen ∧ (m14.length + [r22].length) * 32 ≤ 140737488355328)).bind fun _ =>
       some (m14 ++ [r22], m15, m16, m17, m18, m19, m20)) ((order_own_1 fu x21).bind fun (r23 : SRow) =>
       amb ((chk (m14.length + [r23].length ≤ maxLen ∧ (m14.length + [r23].length) * 32 ≤ 140737488355328)).bind fun _ =>
       some (m14 ++ [r23], m15, m16, m17, m18, m19, m20)) ((chk (m14.length + [r23].length ≤ maxLen ∧ (m14.length + [r23].length) * 32 ≤ 140737488355328)).bind fun _ =>
       some (m14 ++ [r23], m15, m16, m17, m18, m19, m20)))).bind fun ((m24, m25, m26, m27, m28, m29, m30) : (List SRow) × (List Int) × Int × Int × Int × (List Int) × Int) =>
     some (.inl (IntKind.wrap .i64 (v13 + 1), m24, m25, m26, m27, m28, m29, m30)))
    (some (.inr (m14, m15, m16, m17, m18, m19, m20)))
def order_own_l2 (fu : Nat) (s1 : SStmt) : Int × (List SAccess) × (List Int) × Int × Int × Int × (List Int) × Int → Option ((Int × (List SAccess) × (List Int) × Int × Int × Int × (List Int) × Int) ⊕ ((List SAccess) × (List Int) × Int × Int × Int × (List Int) × Int)) := fun (v38, m39, m40, m41, m42, m43, m44, m45) =>
  cond (decide (v38 < (s1.Get.length : Int)))
    ((idx s1.Get v38).bind fun x46 =>
     (amb ((order_own_1 fu x46.At).bind fun (r47 : SRow) =>
       (chk (m39.length + [(⟨x46.Array, r47⟩ : SAccess)].length ≤ maxLen ∧ (m39.length + [(⟨x46.Array, r47⟩ : SAccess)].length) * 40 ≤ 140737488355328)).bind fun _ =>
       some (m39 ++ [(⟨x46.Array, r47⟩ : SAccess)], m40, m41, m42, m43, m44, m45)) ((order_own_1 fu x46.At).bind fun (r48 : SRow) =>
       amb ((chk (m39.length + [(⟨x46.Array, r48⟩ : SAccess)].length ≤ maxLen ∧ (m39.length + [(⟨x46.Array, r48⟩ : SAccess)].length) * 40 ≤ 140737488355328)).bind fun _ =>
       some (m39 ++ [(⟨x46.Array, r48⟩ : SAccess)], m40, m41, m42, m43, m44, m45)) ((chk (m39.length + [(⟨x46.Array, r48⟩ : SAccess)].length ≤ maxLen ∧ (m39.length + [(⟨x46.Array, r48⟩ : SAccess)].length) * 40 ≤ 140737488355328)).bind fun _ =>
       some (m39 ++ [(⟨x46.Array, r48⟩ : SAccess)], m40, m41, m42, m43, m44, m45)))).bind fun ((m49, m50, m51, m52, m53, m54, m55) : (List SAccess) × (List Int) × Int × Int × Int × (List Int) × Int) =>
     some (.inl (IntKind.wrap .i64 (v38 + 1), m49, m50, m51, m52, m53, m54, m55)))
    (some (.inr (m39, m40, m41, m42, m43, m44, m45)))
def order_own (fu : Nat) (s1 : SStmt) : Option (SStmt) :=
  (amb ((order_own_1 fu s1.Put.At).bind fun (r2 : SRow) =>
    some (([] : List Int), s1.Do, s1.Value, s1.Put.Array, r2.Coef, r2.Const, ([] : List SRow), ([] : List SAccess))) ((order_own_1 fu s1.Put.At).bind fun (r3 : SRow) =>
    some (([] : List Int), s1.Do, s1.Value, s1.Put.Array, r3.Coef, r3.Const, ([] : List SRow), ([] : List SAccess)))).bind fun ((m4, m5, m6, m7, m8, m9, m10, m11) : (List Int) × Int × Int × Int × (List Int) × Int × (List SRow) × (List SAccess)) =>
  (slices_Clone fu s1.Over.Box).bind fun (r12 : List Int) =>
  (loopF (order_own_l1 fu s1) fu (0, m10, r12, m5, m6, m7, m8, m9)).bind fun ((m31, m32, m33, m34, m35, m36, m37) : (List SRow) × (List Int) × Int × Int × Int × (List Int) × Int) =>
  (loopF (order_own_l2 fu s1) fu (0, m11, m32, m33, m34, m35, m36, m37)).bind fun ((m56, m57, m58, m59, m60, m61, m62) : (List SAccess) × (List Int) × Int × Int × Int × (List Int) × Int) =>
  some (⟨(⟨m57, m31⟩ : SPoints), m58, m59, (⟨m60, (⟨m61, m62⟩ : SRow)⟩ : SAccess), m56⟩ : SStmt)
def order_Strip_l1 (fu : Nat) (k3 : Int) (size4 : Int) (x7 : SStmt) : Int × (List SRow) × (List Int) × Int × Int × Int × (List Int) × Int → Option ((Int × (List SRow) × (List Int) × Int × Int × Int × (List Int) × Int) ⊕ ((List SRow) × (List Int) × Int × Int × Int × (List Int) × Int)) := fun (v22, m23, m24, m25, m26, m27, m28, m29) =>
  cond (decide (v22 < (x7.Over.Rows.length : Int)))
    ((idx x7.Over.Rows v22).bind fun x30 =>
     (amb ((order_Strip_1 fu x30 k3 size4).bind fun (r31 : SRow) =>
       (chk (m23.length + [r31].length ≤ maxLen ∧ (m23.length + [r31].length) * 32 ≤ 140737488355328)).bind fun _ =>
       some (m23 ++ [r31], m24, m25, m26, m27, m28, m29)) ((order_Strip_1 fu x30 k3 size4).bind fun (r32 : SRow) =>
       amb ((chk (m23.length + [r32].length ≤ maxLen ∧ (m23.length + [r32].length) * 32 ≤ 140737488355328)).bind fun _ =>
       some (m23 ++ [r32], m24, m25, m26, m27, m28, m29)) ((chk (m23.length + [r32].length ≤ maxLen ∧ (m23.length + [r32].length) * 32 ≤ 140737488355328)).bind fun _ =>
       some (m23 ++ [r32], m24, m25, m26, m27, m28, m29)))).bind fun ((m33, m34, m35, m36, m37, m38, m39) : (List SRow) × (List Int) × Int × Int × Int × (List Int) × Int) =>
     some (.inl (IntKind.wrap .i64 (v22 + 1), m33, m34, m35, m36, m37, m38, m39)))
    (some (.inr (m23, m24, m25, m26, m27, m28, m29)))
def order_Strip_l2 (fu : Nat) (k3 : Int) (size4 : Int) (x7 : SStmt) : Int × (List SAccess) × (List Int) × Int × Int × Int × (List Int) × Int → Option ((Int × (List SAccess) × (List Int) × Int × Int × Int × (List Int) × Int) ⊕ ((List SAccess) × (List Int) × Int × Int × Int × (List Int) × Int)) := fun (v49, m50, m51, m52, m53, m54, m55, m56) =>
  cond (decide (v49 < (x7.Get.length : Int)))
    ((idx x7.Get v49).bind fun x57 =>
     (amb ((order_Strip_1 fu x57.At k3 size4).bind fun (r58 : SRow) =>
       (chk (m50.length + [(⟨x57.Array, r58⟩ : SAccess)].length ≤ maxLen ∧ (m50.length + [(⟨x57.Array, r58⟩ : SAccess)].length) * 40 ≤ 140737488355328)).bind fun _ =>
       some (m50 ++ [(⟨x57.Array, r58⟩ : SAccess)], m51, m52, m53, m54, m55, m56)) ((order_Strip_1 fu x57.At k3 size4).bind fun (r59 : SRow) =>
       amb ((chk (m50.length + [(⟨x57.Array, r59⟩ : SAccess)].length ≤ maxLen ∧ (m50.length + [(⟨x57.Array, r59⟩ : SAccess)].length) * 40 ≤ 140737488355328)).bind fun _ =>
       some (m50 ++ [(⟨x57.Array, r59⟩ : SAccess)], m51, m52, m53, m54, m55, m56)) ((chk (m50.length + [(⟨x57.Array, r59⟩ : SAccess)].length ≤ maxLen ∧ (m50.length + [(⟨x57.Array, r59⟩ : SAccess)].length) * 40 ≤ 140737488355328)).bind fun _ =>
       some (m50 ++ [(⟨x57.Array, r59⟩ : SAccess)], m51, m52, m53, m54, m55, m56)))).bind fun ((m60, m61, m62, m63, m64, m65, m66) : (List SAccess) × (List Int) × Int × Int × Int × (List Int) × Int) =>
     some (.inl (IntKind.wrap .i64 (v49 + 1), m60, m61, m62, m63, m64, m65, m66)))
    (some (.inr (m50, m51, m52, m53, m54, m55, m56)))
def order_Strip_l3 (fu : Nat) (n1 : SNest) (stmt2 : Int) : Int × (List Int) × (List Int) × (List SRow) × Int × Int × Int × (List Int) × Int × (List SAccess) × (List SStmt) → Option ((Int × (List Int) × (List Int) × (List SRow) × Int × Int × Int × (List Int) × Int × (List SAccess) × (List SStmt)) ⊕ ((List Int) × (List Int) × (List SRow) × Int × Int × Int × (List Int) × Int × (List SAccess) × (List SStmt))) := fun (v75, m76, m77, m78, m79, m80, m81, m82, m83, m84, m85) =>
  cond (decide (v75 < (n1.Stmts.length : Int)))
    ((idx n1.Stmts v75).bind fun x86 =>
     (cond (v75 == stmt2)
         (some (m77, m78, m79, m80, m81, m82, m83, m84))
         (some (x86.Over.Box, x86.Over.Rows, x86.Do, x86.Value, x86.Put.Array, x86.Put.At.Coef, x86.Put.At.Const, x86.Get))).bind fun ((m87, m88, m89, m90, m91, m92, m93, m94) : (List Int) × (List SRow) × Int × Int × Int × (List Int) × Int × (List SAccess)) =>
     (amb ((order_own fu (⟨(⟨m87, m88⟩ : SPoints), m89, m90, (⟨m91, (⟨m92, m93⟩ : SRow)⟩ : SAccess), m94⟩ : SStmt)).bind fun (r95 : SStmt) =>
       (chk (m85.length + [r95].length ≤ maxLen ∧ (m85.length + [r95].length) * 128 ≤ 140737488355328)).bind fun _ =>
       some (m85 ++ [r95], m76)) ((order_own fu (⟨(⟨m87, m88⟩ : SPoints), m89, m90, (⟨m91, (⟨m92, m93⟩ : SRow)⟩ : SAccess), m94⟩ : SStmt)).bind fun (r96 : SStmt) =>
       amb ((chk (m85.length + [r96].length ≤ maxLen ∧ (m85.length + [r96].length) * 128 ≤ 140737488355328)).bind fun _ =>
       some (m85 ++ [r96], m76)) ((chk (m85.length + [r96].length ≤ maxLen ∧ (m85.length + [r96].length) * 128 ≤ 140737488355328)).bind fun _ =>
       some (m85 ++ [r96], m76)))).bind fun ((m97, m98) : (List SStmt) × (List Int)) =>
     some (.inl (IntKind.wrap .i64 (v75 + 1), m98, m77, m78, m79, m80, m81, m82, m83, m84, m97)))
    (some (.inr (m76, m77, m78, m79, m80, m81, m82, m83, m84, m85)))
def order_Strip (fu : Nat) (n1 : SNest) (stmt2 : Int) (k3 : Int) (size4 : Int) : Option (SNest × Int) :=
  (nest_Wrong fu n1).bind fun (r5 : Int) =>
  cond (r5 != 0)
    (some ((⟨([] : List Int), ([] : List SStmt)⟩ : SNest), r5))
    ((cond (decide (stmt2 < 0)) (some true) (some (decide (stmt2 ≥ (n1.Stmts.length : Int))))).bind fun (v6 : Bool) =>
     cond v6
       (some ((⟨([] : List Int), ([] : List SStmt)⟩ : SNest), 4))
       ((idx n1.Stmts stmt2).bind fun x7 =>
        (cond (decide (k3 < 0)) (some true) (some (decide (k3 ≥ (x7.Over.Box.length : Int))))).bind fun (v8 : Bool) =>
        cond v8
          (some ((⟨([] : List Int), ([] : List SStmt)⟩ : SNest), 6))
          ((cond (decide (size4 < 1)) (some true) (some (decide (size4 > 4096)))).bind fun (v9 : Bool) =>
           cond v9
             (some ((⟨([] : List Int), ([] : List SStmt)⟩ : SNest), 4))
             ((idx x7.Over.Box k3).bind fun x10 =>
              (amb ((order_Strip_1 fu x7.Put.At k3 size4).bind fun (r11 : SRow) =>
                some (([] : List Int), x7.Do, x7.Value, x7.Put.Array, r11.Coef, r11.Const, ([] : List SRow), ([] : List SAccess))) ((order_Strip_1 fu x7.Put.At k3 size4).bind fun (r12 : SRow) =>
                some (([] : List Int), x7.Do, x7.Value, x7.Put.Array, r12.Coef, r12.Const, ([] : List SRow), ([] : List SAccess)))).bind fun ((m13, m14, m15, m16, m17, m18, m19, m20) : (List Int) × Int × Int × Int × (List Int) × Int × (List SRow) × (List SAccess)) =>
              (chk ((0 : Int) ≤ k3 ∧ k3 ≤ (x7.Over.Box.length : Int))).bind fun _ =>
              (chk (size4 ≠ 0)).bind fun _ =>
              (chk ((0 : Int) ≤ (IntKind.wrap .i64 (k3 + 1)) ∧ (IntKind.wrap .i64 (k3 + 1)) ≤ (x7.Over.Box.length : Int))).bind fun _ =>
              (Go.Proofs.Ytfkigaldejbeiaa.F.slices_Concat fu [lpart x7.Over.Box 0 k3, [IntKind.wrap .i64 (Int.tdiv (IntKind.wrap .i64 ((IntKind.wrap .i64 (x10 + size4)) - 1)) size4), size4], lpart x7.Over.Box (IntKind.wrap .i64 (k3 + 1)) (x7.Over.Box.length : Int)]).bind fun (r21 : List Int) =>
              (loopF (order_Strip_l1 fu k3 size4 x7) fu (0, m19, r21, m14, m15, m16, m17, m18)).bind fun ((m40, m41, m42, m43, m44, m45, m46) : (List SRow) × (List Int) × Int × Int × Int × (List Int) × Int) =>
              (chk ((0 : Int) ≤ (m41.length : Int) ∧ (m41.length : Int) ≤ (m41.length : Int) ∧ ((8 : Nat) : Int) * (m41.length : Int) ≤ 281474976710656 ∧ (m41.length : Int) ≤ 9223372036854775807)).bind fun _ =>
              (idx (List.replicate (Int.toNat (m41.length : Int)) (0 : Int)) k3).bind fun x47 =>
              (idx ((List.replicate (Int.toNat (m41.length : Int)) (0 : Int)).set k3.toNat (IntKind.wrap .i64 (0 - size4))) (IntKind.wrap .i64 (k3 + 1))).bind fun x48 =>
              (chk (m40.length + [(⟨((List.replicate (Int.toNat (m41.length : Int)) (0 : Int)).set k3.toNat (IntKind.wrap .i64 (0 - size4))).set ((IntKind.wrap .i64 (k3 + 1)).toNat) (-1), IntKind.wrap .i64 (x10 - 1)⟩ : SRow)].length ≤ maxLen ∧ (m40.length + [(⟨((List.replicate (Int.toNat (m41.length : Int)) (0 : Int)).set k3.toNat (IntKind.wrap .i64 (0 - size4))).set ((IntKind.wrap .i64 (k3 + 1)).toNat) (-1), IntKind.wrap .i64 (x10 - 1)⟩ : SRow)].length) * 32 ≤ 140737488355328)).bind fun _ =>
              (loopF (order_Strip_l2 fu k3 size4 x7) fu (0, m20, m41, m42, m43, m44, m45, m46)).bind fun ((m67, m68, m69, m70, m71, m72, m73) : (List SAccess) × (List Int) × Int × Int × Int × (List Int) × Int) =>
              (slices_Clone fu n1.Sizes).bind fun (r74 : List Int) =>
              (loopF (order_Strip_l3 fu n1 stmt2) fu (0, r74, m68, m40 ++ [(⟨((List.replicate (Int.toNat (m41.length : Int)) (0 : Int)).set k3.toNat (IntKind.wrap .i64 (0 - size4))).set ((IntKind.wrap .i64 (k3 + 1)).toNat) (-1), IntKind.wrap .i64 (x10 - 1)⟩ : SRow)], m69, m70, m71, m72, m73, m67, ([] : List SStmt))).bind fun ((m99, m100, m101, m102, m103, m104, m105, m106, m107, m108) : (List Int) × (List Int) × (List SRow) × Int × Int × Int × (List Int) × Int × (List SAccess) × (List SStmt)) =>
              (nest_Wrong fu (⟨m99, m108⟩ : SNest)).bind fun (r109 : Int) =>
              cond (r109 != 0)
                (some ((⟨([] : List Int), ([] : List SStmt)⟩ : SNest), r109))
                (some ((⟨m99, m108⟩ : SNest), 0))))))
def adjointref9_Row_l1 (fu : Nat) (r1 : SRow) : Int → Option (Int ⊕ (Ex Unit Int)) := fun v3 =>
  cond (decide (v3 < (([r1.Const] ++ r1.Coef).length : Int)))
    ((idx ([r1.Const] ++ r1.Coef) v3).bind fun x4 =>
     (cond (decide (x4 > 1048576)) (some true) (some (decide (x4 < (-1048576))))).bind fun (v5 : Bool) =>
     cond v5
       (some (.inr (.ret 4)))
       (some (.inl (IntKind.wrap .i64 (v3 + 1)))))
    (some (.inr (.brk ())))
def adjointref9_Row (fu : Nat) (r1 : SRow) (vars2 : Int) : Option (Int) :=
  cond ((r1.Coef.length : Int) != vars2)
    (some 6)
    ((chk ([r1.Const].length + r1.Coef.length ≤ maxLen ∧ ([r1.Const].length + r1.Coef.length) * 8 ≤ 140737488355328)).bind fun _ =>
     bindE (fun r => r) (loopF (adjointref9_Row_l1 fu r1) fu 0 : Option (Ex Unit Int)) fun (_ : Unit) =>
     some 0)
def adjointref9_Wrong_l1 (fu : Nat) (p1 : SPoints) : Int × Int → Option ((Int × Int) ⊕ (Ex Int Int)) := fun (n2, v3) =>
  cond (decide (v3 < (p1.Box.length : Int)))
    ((idx p1.Box v3).bind fun x4 =>
     (cond (decide (x4 < 0)) (some true) (some (decide (x4 > 4096)))).bind fun (v5 : Bool) =>
     cond v5
       (some (.inr (.ret 4)))
       (some (.inl (IntKind.wrap .i64 (n2 * x4), IntKind.wrap .i64 (v3 + 1)))))
    (some (.inr (.brk n2)))
def adjointref9_Wrong_l2 (fu : Nat) (p1 : SPoints) : Int → Option (Int ⊕ (Ex Unit Int)) := fun v7 =>
  cond (decide (v7 < (p1.Rows.length : Int)))
    ((idx p1.Rows v7).bind fun x8 =>
     (adjointref9_Row fu x8 (p1.Box.length : Int)).bind fun (r9 : Int) =>
     cond (r9 != 0)
       (some (.inr (.ret r9)))
       (some (.inl (IntKind.wrap .i64 (v7 + 1)))))
    (some (.inr (.brk ())))
def adjointref9_Wrong (fu : Nat) (p1 : SPoints) : Option (Int) :=
  cond (decide ((p1.Box.length : Int) > 4))
    (some 3)
    (bindE (fun r => r) (loopF (adjointref9_Wrong_l1 fu p1) fu (1, 0) : Option (Ex Int Int)) fun (n6 : Int) =>
     cond (decide (n6 > 4096))
       (some 5)
       (cond (decide ((p1.Rows.length : Int) > 8))
          (some 2)
          (bindE (fun r => r) (loopF (adjointref9_Wrong_l2 fu p1) fu 0 : Option (Ex Unit Int)) fun (_ : Unit) =>
           some 0)))
def adjointref10_Takes (fu : Nat) (do1 : Int) : Option (Int) :=
  cond (do1 == 1)
    (some 0)
    ((cond (do1 == 2)
         (some (do1 == 2))
         (some (do1 == 9))).bind fun (v2 : Bool) =>
     cond v2
       (some 1)
       ((cond (do1 == 3)
            (some (do1 == 3))
            ((cond (do1 == 4)
                 (some (do1 == 4))
                 ((cond (do1 == 5)
                      (some (do1 == 5))
                      ((cond (do1 == 6)
                           (some (do1 == 6))
                           ((cond (do1 == 7)
                                (some (do1 == 7))
                                (some (do1 == 10))).bind fun (v3 : Bool) =>
                            some v3)).bind fun (v4 : Bool) =>
                       some v4)).bind fun (v5 : Bool) =>
                  some v5)).bind fun (v6 : Bool) =>
             some v6)).bind fun (v7 : Bool) =>
        cond v7
          (some 2)
          (cond (do1 == 8)
             (some 3)
             (some (-1)))))
def adjointref10_access (fu : Nat) (n1 : SNest) (a2 : SAccess) (vars3 : Int) : Option (Int) :=
  (cond (decide (a2.Array < 0)) (some true) (some (decide (a2.Array ≥ (n1.Sizes.length : Int))))).bind fun (v4 : Bool) =>
  cond v4
    (some 4)
    ((adjointref9_Row fu a2.At vars3).bind fun (r5 : Int) =>
     some r5)
def adjointref10_Wrong_l1 (fu : Nat) (n1 : SNest) : Int → Option (Int ⊕ (Ex Unit Int)) := fun v2 =>
  cond (decide (v2 < (n1.Sizes.length : Int)))
    ((idx n1.Sizes v2).bind fun x3 =>
     (cond (decide (x3 < 0)) (some true) (some (decide (x3 > 65536)))).bind fun (v4 : Bool) =>
     cond v4
       (some (.inr (.ret 4)))
       (some (.inl (IntKind.wrap .i64 (v2 + 1)))))
    (some (.inr (.brk ())))
def adjointref10_Wrong_l2 (fu : Nat) (n1 : SNest) (x6 : SStmt) : Int → Option (Int ⊕ (Ex Unit (Int ⊕ (Ex Unit Int)))) := fun v11 =>
  cond (decide (v11 < (x6.Get.length : Int)))
    ((idx x6.Get v11).bind fun x12 =>
     (adjointref10_access fu n1 x12 (x6.Over.Box.length : Int)).bind fun (r13 : Int) =>
     cond (r13 != 0)
       (some (.inr (.ret (.inr (.ret r13)))))
       (some (.inl (IntKind.wrap .i64 (v11 + 1)))))
    (some (.inr (.brk ())))
def adjointref10_Wrong_l3 (fu : Nat) (n1 : SNest) : Int → Option (Int ⊕ (Ex Unit Int)) := fun v5 =>
  cond (decide (v5 < (n1.Stmts.length : Int)))
    ((idx n1.Stmts v5).bind fun x6 =>
     (adjointref9_Wrong fu x6.Over).bind fun (r7 : Int) =>
     cond (r7 != 0)
       (some (.inr (.ret r7)))
       ((adjointref10_Takes fu x6.Do).bind fun (r8 : Int) =>
        cond (decide (r8 < 0))
          (some (.inr (.ret 1)))
          ((adjointref10_Takes fu x6.Do).bind fun (r9 : Int) =>
           cond (r9 != (x6.Get.length : Int))
             (some (.inr (.ret 2)))
             ((adjointref10_access fu n1 x6.Put (x6.Over.Box.length : Int)).bind fun (r10 : Int) =>
              cond (r10 != 0)
                (some (.inr (.ret r10)))
                (bindE (fun r => r) (loopF (adjointref10_Wrong_l2 fu n1 x6) fu 0 : Option (Ex Unit (Int ⊕ (Ex Unit Int)))) fun (_ : Unit) =>
                 some (.inl (IntKind.wrap .i64 (v5 + 1))))))))
    (some (.inr (.brk ())))
def adjointref10_Wrong (fu : Nat) (n1 : SNest) : Option (Int) :=
  cond (decide ((n1.Stmts.length : Int) > 256))
    (some 2)
    (bindE (fun r => r) (loopF (adjointref10_Wrong_l1 fu n1) fu 0 : Option (Ex Unit Int)) fun (_ : Unit) =>
     bindE (fun r => r) (loopF (adjointref10_Wrong_l3 fu n1) fu 0 : Option (Ex Unit Int)) fun (_ : Unit) =>
     some 0)
def adjointref11_stripped_l1 (fu : Nat) (r1 : SRow) (k2 : Int) (size3 : Int) : Int × Int × (List Int) → Option ((Int × Int × (List Int)) ⊕ (Int × (List Int))) := fun (v4, m5, m6) =>
  cond (decide (v4 < (r1.Coef.length : Int)))
    ((idx r1.Coef v4).bind fun x7 =>
     (cond (v4 == k2)
         ((chk (m6.length + [IntKind.wrap .i64 (x7 * size3)].length ≤ maxLen ∧ (m6.length + [IntKind.wrap .i64 (x7 * size3)].length) * 8 ≤ 140737488355328)).bind fun _ =>
          some (m6 ++ [IntKind.wrap .i64 (x7 * size3)], m5))
         (some (m6, m5))).bind fun ((m8, m9) : (List Int) × Int) =>
     (chk (m8.length + [x7].length ≤ maxLen ∧ (m8.length + [x7].length) * 8 ≤ 140737488355328)).bind fun _ =>
     some (.inl (IntKind.wrap .i64 (v4 + 1), m9, m8 ++ [x7])))
    (some (.inr (m5, m6)))
def adjointref11_stripped (fu : Nat) (r1 : SRow) (k2 : Int) (size3 : Int) : Option (SRow) :=
  (loopF (adjointref11_stripped_l1 fu r1 k2 size3) fu (0, r1.Const, ([] : List Int))).bind fun ((m10, m11) : Int × (List Int)) =>
  some (⟨m11, m10⟩ : SRow)
def adjointref11_Strip_l1 (fu : Nat) (size4 : Int) (x30 : Int) : Int → Option (Int ⊕ Int) := fun strips31 =>
  cond (decide ((IntKind.wrap .i64 (strips31 * size4)) < x30))
    (some (.inl (IntKind.wrap .i64 (strips31 + 1))))
    (some (.inr strips31))
def adjointref11_Strip_l2 (fu : Nat) (k3 : Int) (size4 : Int) (x7 : SStmt) : Int × (List Int) × Int × Int × Int × Int × (List Int) × Int × (List Int) → Option ((Int × (List Int) × Int × Int × Int × Int × (List Int) × Int × (List Int)) ⊕ ((List Int) × Int × Int × Int × Int × (List Int) × Int × (List Int))) := fun (v21, m22, m23, m24, m25, m26, m27, m28, m29) =>
  cond (decide (v21 < (x7.Over.Box.length : Int)))
    (((idx x7.Over.Box v21).bind fun x30 =>
       cond (v21 != k3)
         ((chk (m22.length + [x30].length ≤ maxLen ∧ (m22.length + [x30].length) * 8 ≤ 140737488355328)).bind fun _ =>
          (chk (m29.length + [0].length ≤ maxLen ∧ (m29.length + [0].length) * 8 ≤ 140737488355328)).bind fun _ =>
          some (m22 ++ [x30], m29 ++ [0], m23, m24, m25, m26, m27, m28))
         ((loopF (adjointref11_Strip_l1 fu size4 x30) fu 0).bind fun (strips32 : Int) =>
          (chk (m22.length + [strips32, size4].length ≤ maxLen ∧ (m22.length + [strips32, size4].length) * 8 ≤ 140737488355328)).bind fun _ =>
          (chk (m29.length + [IntKind.wrap .i64 (0 - size4), (-1)].length ≤ maxLen ∧ (m29.length + [IntKind.wrap .i64 (0 - size4), (-1)].length) * 8 ≤ 140737488355328)).bind fun _ =>
          some (m22 ++ [strips32, size4], m29 ++ [IntKind.wrap .i64 (0 - size4), (-1)], m23, m24, m25, m26, m27, m28))).bind fun ((m33, m34, m35, m36, m37, m38, m39, m40) : (List Int) × (List Int) × Int × Int × Int × Int × (List Int) × Int) =>
     some (.inl (IntKind.wrap .i64 (v21 + 1), m33, m35, m36, m37, m38, m39, m40, m34)))
    (some (.inr (m22, m23, m24, m25, m26, m27, m28, m29)))
def adjointref11_Strip_l3 (fu : Nat) (k3 : Int) (size4 : Int) (x7 : SStmt) : Int × (List SRow) × Int × Int × Int × (List Int) × Int → Option ((Int × (List SRow) × Int × Int × Int × (List Int) × Int) ⊕ ((List SRow) × Int × Int × Int × (List Int) × Int)) := fun (v49, m50, m51, m52, m53, m54, m55) =>
  cond (decide (v49 < (x7.Over.Rows.length : Int)))
    ((idx x7.Over.Rows v49).bind fun x56 =>
     (amb ((adjointref11_stripped fu x56 k3 size4).bind fun (r57 : SRow) =>
       (chk (m50.length + [r57].length ≤ maxLen ∧ (m50.length + [r57].length) * 32 ≤ 140737488355328)).bind fun _ =>
       some (m50 ++ [r57], m51, m52, m53, m54, m55)) ((adjointref11_stripped fu x56 k3 size4).bind fun (r58 : SRow) =>
       amb ((chk (m50.length + [r58].length ≤ maxLen ∧ (m50.length + [r58].length) * 32 ≤ 140737488355328)).bind fun _ =>
       some (m50 ++ [r58], m51, m52, m53, m54, m55)) ((chk (m50.length + [r58].length ≤ maxLen ∧ (m50.length + [r58].length) * 32 ≤ 140737488355328)).bind fun _ =>
       some (m50 ++ [r58], m51, m52, m53, m54, m55)))).bind fun ((m59, m60, m61, m62, m63, m64) : (List SRow) × Int × Int × Int × (List Int) × Int) =>
     some (.inl (IntKind.wrap .i64 (v49 + 1), m59, m60, m61, m62, m63, m64)))
    (some (.inr (m50, m51, m52, m53, m54, m55)))
def adjointref11_Strip_l4 (fu : Nat) (k3 : Int) (size4 : Int) (x7 : SStmt) : Int × (List SAccess) × Int × Int × Int × (List Int) × Int → Option ((Int × (List SAccess) × Int × Int × Int × (List Int) × Int) ⊕ ((List SAccess) × Int × Int × Int × (List Int) × Int)) := fun (v71, m72, m73, m74, m75, m76, m77) =>
  cond (decide (v71 < (x7.Get.length : Int)))
    ((idx x7.Get v71).bind fun x78 =>
     (amb ((adjointref11_stripped fu x78.At k3 size4).bind fun (r79 : SRow) =>
       (chk (m72.length + [(⟨x78.Array, r79⟩ : SAccess)].length ≤ maxLen ∧ (m72.length + [(⟨x78.Array, r79⟩ : SAccess)].length) * 40 ≤ 140737488355328)).bind fun _ =>
       some (m72 ++ [(⟨x78.Array, r79⟩ : SAccess)], m73, m74, m75, m76, m77)) ((adjointref11_stripped fu x78.At k3 size4).bind fun (r80 : SRow) =>
       amb ((chk (m72.length + [(⟨x78.Array, r80⟩ : SAccess)].length ≤ maxLen ∧ (m72.length + [(⟨x78.Array, r80⟩ : SAccess)].length) * 40 ≤ 140737488355328)).bind fun _ =>
       some (m72 ++ [(⟨x78.Array, r80⟩ : SAccess)], m73, m74, m75, m76, m77)) ((chk (m72.length + [(⟨x78.Array, r80⟩ : SAccess)].length ≤ maxLen ∧ (m72.length + [(⟨x78.Array, r80⟩ : SAccess)].length) * 40 ≤ 140737488355328)).bind fun _ =>
       some (m72 ++ [(⟨x78.Array, r80⟩ : SAccess)], m73, m74, m75, m76, m77)))).bind fun ((m81, m82, m83, m84, m85, m86) : (List SAccess) × Int × Int × Int × (List Int) × Int) =>
     some (.inl (IntKind.wrap .i64 (v71 + 1), m81, m82, m83, m84, m85, m86)))
    (some (.inr (m72, m73, m74, m75, m76, m77)))
def adjointref11_Strip (fu : Nat) (n1 : SNest) (stmt2 : Int) (k3 : Int) (size4 : Int) : Option (SNest × Int) :=
  (adjointref10_Wrong fu n1).bind fun (r5 : Int) =>
  cond (r5 != 0)
    (some ((⟨([] : List Int), ([] : List SStmt)⟩ : SNest), r5))
    ((cond (decide (stmt2 < 0)) (some true) (some (decide (stmt2 ≥ (n1.Stmts.length : Int))))).bind fun (v6 : Bool) =>
     cond v6
       (some ((⟨([] : List Int), ([] : List SStmt)⟩ : SNest), 4))
       ((idx n1.Stmts stmt2).bind fun x7 =>
        (cond (decide (k3 < 0)) (some true) (some (decide (k3 ≥ (x7.Over.Box.length : Int))))).bind fun (v8 : Bool) =>
        cond v8
          (some ((⟨([] : List Int), ([] : List SStmt)⟩ : SNest), 6))
          ((cond (decide (size4 < 1)) (some true) (some (decide (size4 > 4096)))).bind fun (v9 : Bool) =>
           cond v9
             (some ((⟨([] : List Int), ([] : List SStmt)⟩ : SNest), 4))
             ((amb ((adjointref11_stripped fu x7.Put.At k3 size4).bind fun (r10 : SRow) =>
                some (x7.Do, x7.Value, x7.Put.Array, r10.Coef, r10.Const, ([] : List Int), ([] : List SRow), ([] : List SAccess))) ((adjointref11_stripped fu x7.Put.At k3 size4).bind fun (r11 : SRow) =>
                some (x7.Do, x7.Value, x7.Put.Array, r11.Coef, r11.Const, ([] : List Int), ([] : List SRow), ([] : List SAccess)))).bind fun ((m12, m13, m14, m15, m16, m17, m18, m19) : Int × Int × Int × (List Int) × Int × (List Int) × (List SRow) × (List SAccess)) =>
              (idx x7.Over.Box k3).bind fun x20 =>
              (loopF (adjointref11_Strip_l2 fu k3 size4 x7) fu (0, m17, IntKind.wrap .i64 (x20 - 1), m12, m13, m14, m15, m16, ([] : List Int))).bind fun ((m41, m42, m43, m44, m45, m46, m47, m48) : (List Int) × Int × Int × Int × Int × (List Int) × Int × (List Int)) =>
              (loopF (adjointref11_Strip_l3 fu k3 size4 x7) fu (0, m18, m43, m44, m45, m46, m47)).bind fun ((m65, m66, m67, m68, m69, m70) : (List SRow) × Int × Int × Int × (List Int) × Int) =>
              (chk (m65.length + [(⟨m48, m42⟩ : SRow)].length ≤ maxLen ∧ (m65.length + [(⟨m48, m42⟩ : SRow)].length) * 32 ≤ 140737488355328)).bind fun _ =>
              (loopF (adjointref11_Strip_l4 fu k3 size4 x7) fu (0, m19, m66, m67, m68, m69, m70)).bind fun ((m87, m88, m89, m90, m91, m92) : (List SAccess) × Int × Int × Int × (List Int) × Int) =>
              (amb (amb ((chk (([] : List SStmt).length + n1.Stmts.length ≤ maxLen ∧ (([] : List SStmt).length + n1.Stmts.length) * 128 ≤ 140737488355328)).bind fun _ =>
                some (n1.Sizes, ([] : List SStmt) ++ n1.Stmts)) ((chk (([] : List SStmt).length + n1.Stmts.length ≤ maxLen ∧ (([] : List SStmt).length + n1.Stmts.length) * 128 ≤ 140737488355328)).bind fun _ =>
                some (n1.Sizes, ([] : List SStmt) ++ n1.Stmts))) ((chk (([] : List SStmt).length + n1.Stmts.length ≤ maxLen ∧ (([] : List SStmt).length + n1.Stmts.length) * 128 ≤ 140737488355328)).bind fun _ =>
                some (n1.Sizes, ([] : List SStmt) ++ n1.Stmts))).bind fun ((m93, m94) : (List Int) × (List SStmt)) =>
              (idx m94 stmt2).bind fun x95 =>
              (adjointref10_Wrong fu (⟨m93, m94.set stmt2.toNat (⟨(⟨m41, m65 ++ [(⟨m48, m42⟩ : SRow)]⟩ : SPoints), m88, m89, (⟨m90, (⟨m91, m92⟩ : SRow)⟩ : SAccess), m87⟩ : SStmt)⟩ : SNest)).bind fun (r96 : Int) =>
              cond (r96 != 0)
                (some ((⟨([] : List Int), ([] : List SStmt)⟩ : SNest), r96))
                (some ((⟨m93, m94.set stmt2.toNat (⟨(⟨m41, m65 ++ [(⟨m48, m42⟩ : SRow)]⟩ : SPoints), m88, m89, (⟨m90, (⟨m91, m92⟩ : SRow)⟩ : SAccess), m87⟩ : SStmt)⟩ : SNest), 0))))))
def adjointref2_SameList_l1 (fu : Nat) (a1 : List Int) (b2 : List Int) : Int → Option (Int ⊕ (Ex Unit Bool)) := fun v3 =>
  cond (decide (v3 < (a1.length : Int)))
    ((idx a1 v3).bind fun x4 =>
     (idx b2 v3).bind fun x5 =>
     cond (x4 != x5)
       (some (.inr (.ret false)))
       (some (.inl (IntKind.wrap .i64 (v3 + 1)))))
    (some (.inr (.brk ())))
def adjointref2_SameList (fu : Nat) (a1 : List Int) (b2 : List Int) : Option (Bool) :=
  cond ((a1.length : Int) != (b2.length : Int))
    (some false)
    (bindE (fun r => r) (loopF (adjointref2_SameList_l1 fu a1 b2) fu 0 : Option (Ex Unit Bool)) fun (_ : Unit) =>
     some true)
def adjointref10_SameRow (fu : Nat) (a1 : SRow) (b2 : SRow) : Option (Bool) :=
  (cond (a1.Const == b2.Const) ((adjointref2_SameList fu a1.Coef b2.Coef).bind fun (r3 : Bool) =>
    some r3) (some false)).bind fun (v4 : Bool) =>
  some v4
def adjointref10_sameAccess (fu : Nat) (a1 : SAccess) (b2 : SAccess) : Option (Bool) :=
  (cond (a1.Array == b2.Array) ((adjointref10_SameRow fu a1.At b2.At).bind fun (r3 : Bool) =>
    some r3) (some false)).bind fun (v4 : Bool) =>
  some v4
def adjointref10_SameStmt_l1 (fu : Nat) (a1 : SStmt) (b2 : SStmt) : Int → Option (Int ⊕ (Ex Unit Bool)) := fun v6 =>
  cond (decide (v6 < (a1.Over.Rows.length : Int)))
    ((idx a1.Over.Rows v6).bind fun x7 =>
     (idx b2.Over.Rows v6).bind fun x8 =>
     (adjointref10_SameRow fu x7 x8).bind fun (r9 : Bool) =>
     cond (!r9)
       (some (.inr (.ret false)))
       (some (.inl (IntKind.wrap .i64 (v6 + 1)))))
    (some (.inr (.brk ())))
def adjointref10_SameStmt_l2 (fu : Nat) (a1 : SStmt) (b2 : SStmt) : Int → Option (Int ⊕ (Ex Unit Bool)) := fun v10 =>
  cond (decide (v10 < (a1.Get.length : Int)))
    ((idx a1.Get v10).bind fun x11 =>
     (idx b2.Get v10).bind fun x12 =>
     (adjointref10_sameAccess fu x11 x12).bind fun (r13 : Bool) =>
     cond (!r13)
       (some (.inr (.ret false)))
       (some (.inl (IntKind.wrap .i64 (v10 + 1)))))
    (some (.inr (.brk ())))
def adjointref10_SameStmt (fu : Nat) (a1 : SStmt) (b2 : SStmt) : Option (Bool) :=
  (cond (a1.Do != b2.Do) (some true) (cond (a1.Value != b2.Value) (some true) ((adjointref2_SameList fu a1.Over.Box b2.Over.Box).bind fun (r3 : Bool) =>
    cond (!r3) (some true) (cond ((a1.Over.Rows.length : Int) != (b2.Over.Rows.length : Int)) (some true) ((adjointref10_sameAccess fu a1.Put b2.Put).bind fun (r4 : Bool) =>
    cond (!r4) (some true) (some ((a1.Get.length : Int) != (b2.Get.length : Int)))))))).bind fun (v5 : Bool) =>
  cond v5
    (some false)
    (bindE (fun r => r) (loopF (adjointref10_SameStmt_l1 fu a1 b2) fu 0 : Option (Ex Unit Bool)) fun (_ : Unit) =>
     bindE (fun r => r) (loopF (adjointref10_SameStmt_l2 fu a1 b2) fu 0 : Option (Ex Unit Bool)) fun (_ : Unit) =>
     some true)
def adjointref10_SameNest_l1 (fu : Nat) (a1 : SNest) (b2 : SNest) : Int → Option (Int ⊕ (Ex Unit Bool)) := fun v5 =>
  cond (decide (v5 < (a1.Stmts.length : Int)))
    ((idx a1.Stmts v5).bind fun x6 =>
     (idx b2.Stmts v5).bind fun x7 =>
     (adjointref10_SameStmt fu x6 x7).bind fun (r8 : Bool) =>
     cond (!r8)
       (some (.inr (.ret false)))
       (some (.inl (IntKind.wrap .i64 (v5 + 1)))))
    (some (.inr (.brk ())))
def adjointref10_SameNest (fu : Nat) (a1 : SNest) (b2 : SNest) : Option (Bool) :=
  ((adjointref2_SameList fu a1.Sizes b2.Sizes).bind fun (r3 : Bool) =>
    cond (!r3) (some true) (some ((a1.Stmts.length : Int) != (b2.Stmts.length : Int)))).bind fun (v4 : Bool) =>
  cond v4
    (some false)
    (bindE (fun r => r) (loopF (adjointref10_SameNest_l1 fu a1 b2) fu 0 : Option (Ex Unit Bool)) fun (_ : Unit) =>
     some true)
def order_Plain_l1 (fu : Nat) (x4 : SStmt) : Int × (List SRow) → Option ((Int × (List SRow)) ⊕ (List SRow)) := fun (v5, m6) =>
  cond (decide (v5 < (x4.Over.Box.length : Int)))
    ((chk ((0 : Int) ≤ (x4.Over.Box.length : Int) ∧ (x4.Over.Box.length : Int) ≤ (x4.Over.Box.length : Int) ∧ ((8 : Nat) : Int) * (x4.Over.Box.length : Int) ≤ 281474976710656 ∧ (x4.Over.Box.length : Int) ≤ 9223372036854775807)).bind fun _ =>
     (idx (List.replicate (Int.toNat (x4.Over.Box.length : Int)) (0 : Int)) v5).bind fun x7 =>
     (chk (m6.length + [(⟨(List.replicate (Int.toNat (x4.Over.Box.length : Int)) (0 : Int)).set v5.toNat 1, 0⟩ : SRow)].length ≤ maxLen ∧ (m6.length + [(⟨(List.replicate (Int.toNat (x4.Over.Box.length : Int)) (0 : Int)).set v5.toNat 1, 0⟩ : SRow)].length) * 32 ≤ 140737488355328)).bind fun _ =>
     some (.inl (IntKind.wrap .i64 (v5 + 1), m6 ++ [(⟨(List.replicate (Int.toNat (x4.Over.Box.length : Int)) (0 : Int)).set v5.toNat 1, 0⟩ : SRow)])))
    (some (.inr m6))
def order_Plain_l2 (fu : Nat) (n1 : SNest) : Int × (List (List SRow)) → Option ((Int × (List (List SRow))) ⊕ (List (List SRow))) := fun (v2, m3) =>
  cond (decide (v2 < (n1.Stmts.length : Int)))
    ((idx n1.Stmts v2).bind fun x4 =>
     (chk ((0 : Int) ≤ (x4.Over.Box.length : Int) ∧ (x4.Over.Box.length : Int) ≤ (x4.Over.Box.length : Int) ∧ ((8 : Nat) : Int) * (x4.Over.Box.length : Int) ≤ 281474976710656 ∧ (x4.Over.Box.length : Int) ≤ 9223372036854775807)).bind fun _ =>
     (loopF (order_Plain_l1 fu x4) fu (0, [(⟨List.replicate (Int.toNat (x4.Over.Box.length : Int)) (0 : Int), v2⟩ : SRow)])).bind fun (m8 : List SRow) =>
     (chk (m3.length + [m8].length ≤ maxLen ∧ (m3.length + [m8].length) * 24 ≤ 140737488355328)).bind fun _ =>
     some (.inl (IntKind.wrap .i64 (v2 + 1), m3 ++ [m8])))
    (some (.inr m3))
def order_Plain (fu : Nat) (n1 : SNest) : Option (List (List SRow)) :=
  (loopF (order_Plain_l2 fu n1) fu (0, ([] : List (List SRow)))).bind fun (m9 : List (List SRow)) =>
  some m9
def adjointref11_Plain_l1 (fu : Nat) (v2 : Int) (x4 : SStmt) : Int × (List SRow) → Option ((Int × (List SRow)) ⊕ (List SRow)) := fun (k5, m6) =>
  cond (decide (k5 < (x4.Over.Box.length : Int)))
    ((chk ((0 : Int) ≤ (x4.Over.Box.length : Int) ∧ (x4.Over.Box.length : Int) ≤ (x4.Over.Box.length : Int) ∧ ((8 : Nat) : Int) * (x4.Over.Box.length : Int) ≤ 281474976710656 ∧ (x4.Over.Box.length : Int) ≤ 9223372036854775807)).bind fun _ =>
     (cond (decide (k5 < 0))
         (some (v2, List.replicate (Int.toNat (x4.Over.Box.length : Int)) (0 : Int)))
         ((idx (List.replicate (Int.toNat (x4.Over.Box.length : Int)) (0 : Int)) k5).bind fun x7 =>
          some (0, (List.replicate (Int.toNat (x4.Over.Box.length : Int)) (0 : Int)).set k5.toNat 1))).bind fun ((m8, m9) : Int × (List Int)) =>
     (chk (m6.length + [(⟨m9, m8⟩ : SRow)].length ≤ maxLen ∧ (m6.length + [(⟨m9, m8⟩ : SRow)].length) * 32 ≤ 140737488355328)).bind fun _ =>
     some (.inl (IntKind.wrap .i64 (k5 + 1), m6 ++ [(⟨m9, m8⟩ : SRow)])))
    (some (.inr m6))
def adjointref11_Plain_l2 (fu : Nat) (n1 : SNest) : Int × (List (List SRow)) → Option ((Int × (List (List SRow))) ⊕ (List (List SRow))) := fun (v2, m3) =>
  cond (decide (v2 < (n1.Stmts.length : Int)))
    ((idx n1.Stmts v2).bind fun x4 =>
     (loopF (adjointref11_Plain_l1 fu v2 x4) fu ((-1), ([] : List SRow))).bind fun (m10 : List SRow) =>
     (chk (m3.length + [m10].length ≤ maxLen ∧ (m3.length + [m10].length) * 24 ≤ 140737488355328)).bind fun _ =>
     some (.inl (IntKind.wrap .i64 (v2 + 1), m3 ++ [m10])))
    (some (.inr m3))
def adjointref11_Plain (fu : Nat) (n1 : SNest) : Option (List (List SRow)) :=
  (loopF (adjointref11_Plain_l2 fu n1) fu (0, ([] : List (List SRow)))).bind fun (m11 : List (List SRow)) =>
  some m11
def adjointlaw11_OrderStrips_l1 (fu : Nat) (r11 : List (List SRow)) (r12 : List (List SRow)) (v14 : Int) (x17 : List SRow) : Int → Option (Int ⊕ (Ex Unit (Int ⊕ (Ex Unit Bool)))) := fun v18 =>
  cond (decide (v18 < (x17.length : Int)))
    ((idx r11 v14).bind fun x19 =>
     (idx x19 v18).bind fun x20 =>
     (idx r12 v14).bind fun x21 =>
     (idx x21 v18).bind fun x22 =>
     (adjointref10_SameRow fu x20 x22).bind fun (r23 : Bool) =>
     cond (!r23)
       (some (.inr (.ret (.inr (.ret false)))))
       (some (.inl (IntKind.wrap .i64 (v18 + 1)))))
    (some (.inr (.brk ())))
def adjointlaw11_OrderStrips_l2 (fu : Nat) (r11 : List (List SRow)) (r12 : List (List SRow)) : Int → Option (Int ⊕ (Ex Unit Bool)) := fun v14 =>
  cond (decide (v14 < (r11.length : Int)))
    ((idx r11 v14).bind fun x15 =>
     (idx r12 v14).bind fun x16 =>
     cond ((x15.length : Int) != (x16.length : Int))
       (some (.inr (.ret false)))
       ((idx r11 v14).bind fun x17 =>
        bindE (fun r => r) (loopF (adjointlaw11_OrderStrips_l1 fu r11 r12 v14 x17) fu 0 : Option (Ex Unit (Int ⊕ (Ex Unit Bool)))) fun (_ : Unit) =>
        some (.inl (IntKind.wrap .i64 (v14 + 1)))))
    (some (.inr (.brk ())))
def adjointlaw11_OrderStrips (fu : Nat) (n1 : SNest) (stmt2 : Int) (k3 : Int) (size4 : Int) : Option (Bool) :=
  (order_Strip fu n1 stmt2 k3 size4).bind fun ((r5, r6) : SNest × Int) =>
  (adjointref11_Strip fu n1 stmt2 k3 size4).bind fun ((r7, r8) : SNest × Int) =>
  ((adjointref10_SameNest fu r5 r7).bind fun (r9 : Bool) =>
    cond (!r9) (some true) (some (r6 != r8))).bind fun (v10 : Bool) =>
  cond v10
    (some false)
    ((order_Plain fu n1).bind fun (r11 : List (List SRow)) =>
     (adjointref11_Plain fu n1).bind fun (r12 : List (List SRow)) =>
     cond ((r11.length : Int) != (r12.length : Int))
       (some false)
       ((adjointref10_Wrong fu n1).bind fun (r13 : Int) =>
        cond (r13 != 0)
          (some true)
          (bindE (fun r => r) (loopF (adjointlaw11_OrderStrips_l2 fu r11 r12) fu 0 : Option (Ex Unit Bool)) fun (_ : Unit) =>
           some true)))
end F
end
end Go.DN
