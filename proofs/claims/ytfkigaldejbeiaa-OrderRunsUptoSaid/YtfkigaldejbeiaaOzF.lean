/-
  The functions, as Lean functions over data.
-/
import Derived.Test.YtfkigaldejbeiaaOzS
set_option maxRecDepth 20000
set_option linter.unusedVariables false
set_option linter.unusedSectionVars false
set_option linter.unusedSimpArgs false
namespace Go.DN
open Go.AM
noncomputable section
namespace F
def nest_Wrong_1 (fu:Nat) (s1:Int):Option (Bool):=
 (cond (decide (s1<0)) (some true) (some (decide (s1>65536)))).bind fun (v2:Bool)=>
 some v2
def slices_IndexFunc_l1 (fu:Nat) (s1:List Int):Int→Option (Int⊕(Ex Unit Int)):=fun v2=>
 cond (decide (v2<(s1.length:Int)))
  ((idx s1 v2).bind fun x3=>
   (nest_Wrong_1 fu x3).bind fun (r4:Bool)=>
   cond r4
    (some (.inr (.ret v2)))
    (some (.inl (IntKind.wrap .i64 (v2+1)))))
  (some (.inr (.brk ())))
def slices_IndexFunc (fu:Nat) (s1:List Int):Option (Int):=
 bindE (fun r=>r) (loopF (slices_IndexFunc_l1 fu s1) fu 0:Option (Ex Unit Int)) fun (_:Unit)=>
 some (-1)
def slices_ContainsFunc (fu:Nat) (s1:List Int):Option (Bool):=
 (slices_IndexFunc fu s1).bind fun (r2:Int)=>
 some (decide (r2≥0))
def points_Row_1 (fu:Nat) (n1:Int):Option (Bool):=
 (cond (decide (n1<(-1048576))) (some true) (some (decide (n1>1048576)))).bind fun (v2:Bool)=>
 some v2
def slices_IndexFunc_2_l1 (fu:Nat) (s1:List Int):Int→Option (Int⊕(Ex Unit Int)):=fun v2=>
 cond (decide (v2<(s1.length:Int)))
  ((idx s1 v2).bind fun x3=>
   (points_Row_1 fu x3).bind fun (r4:Bool)=>
   cond r4
    (some (.inr (.ret v2)))
    (some (.inl (IntKind.wrap .i64 (v2+1)))))
  (some (.inr (.brk ())))
def slices_IndexFunc_2 (fu:Nat) (s1:List Int):Option (Int):=
 bindE (fun r=>r) (loopF (slices_IndexFunc_2_l1 fu s1) fu 0:Option (Ex Unit Int)) fun (_:Unit)=>
 some (-1)
def slices_ContainsFunc_2 (fu:Nat) (s1:List Int):Option (Bool):=
 (slices_IndexFunc_2 fu s1).bind fun (r2:Int)=>
 some (decide (r2≥0))
def points_Row (fu:Nat) (r1:SRow) (vars2:Int):Option (Int):=
 cond ((r1.Coef.length:Int) !=vars2)
  (some 6)
  (((points_Row_1 fu r1.Const).bind fun (r3:Bool)=>
    cond r3 (some true) ((slices_ContainsFunc_2 fu r1.Coef).bind fun (r4:Bool)=>
    some r4)).bind fun (v5:Bool)=>
   cond v5
    (some 4)
    (some 0))
def points_Wrong_l1 (fu:Nat) (p1:SPoints):Int→Option (Int⊕(Ex Unit Int)):=fun v2=>
 cond (decide (v2<(p1.Box.length:Int)))
  ((idx p1.Box v2).bind fun x3=>
   (cond (decide (x3<0)) (some true) (some (decide (x3>4096)))).bind fun (v4:Bool)=>
   cond v4
    (some (.inr (.ret 4)))
    (some (.inl (IntKind.wrap .i64 (v2+1)))))
  (some (.inr (.brk ())))
def points_Wrong_l2 (fu:Nat) (p1:SPoints):Int×Int→Option ((Int×Int)⊕Int):=fun (n5,v6)=>
 cond (decide (v6<(p1.Box.length:Int)))
  ((idx p1.Box v6).bind fun x7=>
   some (.inl (IntKind.wrap .i64 (n5*x7),IntKind.wrap .i64 (v6+1))))
  (some (.inr n5))
def points_Wrong_l3 (fu:Nat) (p1:SPoints):Int→Option (Int⊕(Ex Unit Int)):=fun v9=>
 cond (decide (v9<(p1.Rows.length:Int)))
  ((idx p1.Rows v9).bind fun x10=>
   (points_Row fu x10 (p1.Box.length:Int)).bind fun (r11:Int)=>
   cond (r11 !=0)
    (some (.inr (.ret r11)))
    (some (.inl (IntKind.wrap .i64 (v9+1)))))
  (some (.inr (.brk ())))
def points_Wrong (fu:Nat) (p1:SPoints):Option (Int):=
 cond (decide ((p1.Box.length:Int)>4))
  (some 3)
  (bindE (fun r=>r) (loopF (points_Wrong_l1 fu p1) fu 0:Option (Ex Unit Int)) fun (_:Unit)=>
   (loopF (points_Wrong_l2 fu p1) fu (1,0)).bind fun (n8:Int)=>
   cond (decide (n8>4096))
    (some 5)
    (cond (decide ((p1.Rows.length:Int)>8))
     (some 2)
     (bindE (fun r=>r) (loopF (points_Wrong_l3 fu p1) fu 0:Option (Ex Unit Int)) fun (_:Unit)=>
      some 0)))
def nest_gets (fu:Nat) (do1:Int):Option (Int):=
 cond (do1==1)
  (some 0)
  ((cond (do1==2)
     (some (do1==2))
     (some (do1==9))).bind fun (v2:Bool)=>
   cond v2
    (some 1)
    ((cond (do1==3)
      (some (do1==3))
      ((cond (do1==4)
         (some (do1==4))
         ((cond (do1==5)
           (some (do1==5))
           ((cond (do1==6)
              (some (do1==6))
              ((cond (do1==7)
                (some (do1==7))
                (some (do1==10))).bind fun (v3:Bool)=>
              some v3)).bind fun (v4:Bool)=>
            some v4)).bind fun (v5:Bool)=>
         some v5)).bind fun (v6:Bool)=>
       some v6)).bind fun (v7:Bool)=>
    cond v7
     (some 2)
     (cond (do1==8)
       (some 3)
       (some (-1)))))
def nest_statement_l1 (fu:Nat) (n1:SNest) (s2:SStmt):Int→Option (Int⊕(Ex Unit Int)):=fun v5=>
 cond (decide (v5<(([s2.Put]++s2.Get).length:Int)))
  ((idx ([s2.Put]++s2.Get) v5).bind fun x6=>
   (cond (decide (x6.Array<0)) (some true) (some (decide (x6.Array≥(n1.Sizes.length:Int))))).bind fun (v7:Bool)=>
   cond v7
    (some (.inr (.ret 4)))
    ((points_Row fu x6.At (s2.Over.Box.length:Int)).bind fun (r8:Int)=>
    cond (r8 !=0)
     (some (.inr (.ret r8)))
     (some (.inl (IntKind.wrap .i64 (v5+1))))))
  (some (.inr (.brk ())))
def nest_statement (fu:Nat) (n1:SNest) (s2:SStmt):Option (Int):=
 (points_Wrong fu s2.Over).bind fun (r3:Int)=>
 cond (r3 !=0)
  (some r3)
  ((nest_gets fu s2.Do).bind fun (r4:Int)=>
   cond (decide (r4<0))
    (some 1)
    (cond (r4 !=(s2.Get.length:Int))
     (some 2)
     ((chk ([s2.Put].length+s2.Get.length≤maxLen∧([s2.Put].length+s2.Get.length)*40≤140737488355328)).bind fun _=>
      bindE (fun r=>r) (loopF (nest_statement_l1 fu n1 s2) fu 0:Option (Ex Unit Int)) fun (_:Unit)=>
      some 0)))
def nest_Wrong_l1 (fu:Nat) (n1:SNest):Int→Option (Int⊕(Ex Unit Int)):=fun v3=>
 cond (decide (v3<(n1.Stmts.length:Int)))
  ((idx n1.Stmts v3).bind fun x4=>
   (nest_statement fu n1 (⟨(⟨x4.Over.Box,x4.Over.Rows⟩:SPoints),x4.Do,x4.Value,(⟨x4.Put.Array,(⟨x4.Put.At.Coef,x4.Put.At.Const⟩:SRow)⟩:SAccess),x4.Get⟩:SStmt)).bind fun (r5:Int)=>
   cond (r5 !=0)
    (some (.inr (.ret r5)))
    (some (.inl (IntKind.wrap .i64 (v3+1)))))
  (some (.inr (.brk ())))
def nest_Wrong (fu:Nat) (n1:SNest):Option (Int):=
 cond (decide ((n1.Stmts.length:Int)>256))
  (some 2)
  ((slices_ContainsFunc fu n1.Sizes).bind fun (r2:Bool)=>
   cond r2
    (some 4)
    (bindE (fun r=>r) (loopF (nest_Wrong_l1 fu n1) fu 0:Option (Ex Unit Int)) fun (_:Unit)=>
    some 0))
def order_Wrong_l1 (fu:Nat) (n1:SNest) (v4:Int) (x5:List SRow):Int→Option (Int⊕(Ex Unit (Int⊕(Ex Unit Int)))):=fun v6=>
 cond (decide (v6<(x5.length:Int)))
  ((idx x5 v6).bind fun x7=>
   (idx n1.Stmts v4).bind fun x8=>
   (points_Row fu x7 (x8.Over.Box.length:Int)).bind fun (r9:Int)=>
   cond (r9 !=0)
    (some (.inr (.ret (.inr (.ret r9)))))
    (some (.inl (IntKind.wrap .i64 (v6+1)))))
  (some (.inr (.brk ())))
def order_Wrong_l2 (fu:Nat) (n1:SNest) (times2:List (List SRow)):Int→Option (Int⊕(Ex Unit Int)):=fun v4=>
 cond (decide (v4<(times2.length:Int)))
  ((idx times2 v4).bind fun x5=>
   cond (decide ((x5.length:Int)>8))
    (some (.inr (.ret 2)))
    (bindE (fun r=>r) (loopF (order_Wrong_l1 fu n1 v4 x5) fu 0:Option (Ex Unit (Int⊕(Ex Unit Int)))) fun (_:Unit)=>
    some (.inl (IntKind.wrap .i64 (v4+1)))))
  (some (.inr (.brk ())))
def order_Wrong (fu:Nat) (n1:SNest) (times2:List (List SRow)):Option (Int):=
 (nest_Wrong fu n1).bind fun (r3:Int)=>
 cond (r3 !=0)
  (some r3)
  (cond ((times2.length:Int) !=(n1.Stmts.length:Int))
    (some 2)
    (bindE (fun r=>r) (loopF (order_Wrong_l2 fu n1 times2) fu 0:Option (Ex Unit Int)) fun (_:Unit)=>
    some 0))
def points_All (fu:Nat) (p1:SPoints):Option ((List Int)×(List SRow)):=
 some (p1.Box,p1.Rows)
def points_hopeless_l1 (fu:Nat) (p1:SPoints) (x2:List Int) (k3:Int) (x5:SRow):Int×Int→Option ((Int×Int)⊕Int):=fun (n6,v7)=>
 cond (decide (v7<(x5.Coef.length:Int)))
  ((idx x5.Coef v7).bind fun x8=>
   (cond (decide (v7<k3))
     ((idx x2 v7).bind fun x9=>
     some (IntKind.wrap .i64 (n6+(IntKind.wrap .i64 (x8*x9)))))
     ((cond (decide (x8>0))
       ((idx p1.Box v7).bind fun x10=>
        some (IntKind.wrap .i64 (n6+(IntKind.wrap .i64 (x8*(IntKind.wrap .i64 (x10-1)))))))
       (some n6)).bind fun (n11:Int)=>
     some n11)).bind fun (n12:Int)=>
   some (.inl (n12,IntKind.wrap .i64 (v7+1))))
  (some (.inr n6))
def points_hopeless_l2 (fu:Nat) (p1:SPoints) (x2:List Int) (k3:Int):Int→Option (Int⊕(Ex Unit Bool)):=fun v4=>
 cond (decide (v4<(p1.Rows.length:Int)))
  ((idx p1.Rows v4).bind fun x5=>
   (loopF (points_hopeless_l1 fu p1 x2 k3 x5) fu (x5.Const,0)).bind fun (n13:Int)=>
   cond (decide (n13<0))
    (some (.inr (.ret true)))
    (some (.inl (IntKind.wrap .i64 (v4+1)))))
  (some (.inr (.brk ())))
def points_hopeless (fu:Nat) (p1:SPoints) (x2:List Int) (k3:Int):Option (Bool):=
 bindE (fun r=>r) (loopF (points_hopeless_l2 fu p1 x2 k3) fu 0:Option (Ex Unit Bool)) fun (_:Unit)=>
 some false
def slices_Clone (fu:Nat) (s1:List Int):Option (List Int):=
 nilF (s1.length:Int) (some ([]:List Int)) ((chk (([]:List Int).length+s1.length≤maxLen∧(([]:List Int).length+s1.length)*8≤140737488355328)).bind fun _=>
 some (([]:List Int)++s1))
def points_At_l1 (fu:Nat) (r1:SRow) (x2:List Int):Int×Int→Option ((Int×Int)⊕Int):=fun (n3,v4)=>
 cond (decide (v4<(r1.Coef.length:Int)))
  ((idx r1.Coef v4).bind fun x5=>
   (idx x2 v4).bind fun x6=>
   some (.inl (IntKind.wrap .i64 (n3+(IntKind.wrap .i64 (x5*x6))),IntKind.wrap .i64 (v4+1))))
  (some (.inr n3))
def points_At (fu:Nat) (r1:SRow) (x2:List Int):Option (Int):=
 (loopF (points_At_l1 fu r1 x2) fu (r1.Const,0)).bind fun (n7:Int)=>
 some n7
def order_spots_y_3_l1 (fu:Nat) (v1:List Int) (x8:List SRow):Int×(List Int)→Option ((Int×(List Int))⊕(List Int)):=fun (v9,m10)=>
 cond (decide (v9<(x8.length:Int)))
  ((idx x8 v9).bind fun x11=>
   (points_At fu x11 v1).bind fun (r12:Int)=>
   (idx m10 v9).bind fun x13=>
   some (.inl (IntKind.wrap .i64 (v9+1),m10.set v9.toNat r12)))
  (some (.inr m10))
def order_spots_y_3 (fu:Nat) (v1:List Int) (m2:List (List SRow)) (m3:Int) (m4:Int) (m5:Int) (m6:List Sspot) (m7:List Sspot):Option (Int×(List (List SRow))×Int×Int×Int×(List Sspot)×(List Sspot)):=
 cond ((m7.length:Int)==1024)
  (some (2,m2,5,m4,m5,([]:List Sspot),m7))
  ((chk ((0:Int)≤m4∧m4≤m4∧((8:Nat):Int)*m4≤281474976710656∧m4≤9223372036854775807)).bind fun _=>
   (idx m2 m5).bind fun x8=>
   (loopF (order_spots_y_3_l1 fu v1 x8) fu (0,List.replicate (Int.toNat m4) (0:Int))).bind fun (m14:List Int)=>
   (chk (m7.length+[(⟨(⟨m5,v1⟩:SSpot),(m7.length:Int),m14⟩:Sspot)].length≤maxLen∧(m7.length+[(⟨(⟨m5,v1⟩:SSpot),(m7.length:Int),m14⟩:Sspot)].length)*64≤140737488355328)).bind fun _=>
   some (0,m2,m3,m4,m5,m6,m7++[(⟨(⟨m5,v1⟩:SSpot),(m7.length:Int),m14⟩:Sspot)]))
def points_walk_4_l1 (self:SPoints→Int→(List Int)→Int→(List (List SRow))→Int→Int→Int→(List Sspot)→(List Sspot)→Option (Bool×(List Int)×Int×(List (List SRow))×Int×Int×Int×(List Sspot)×(List Sspot))) (fu:Nat) (p1:SPoints) (k2:Int):(List Int)×Int×(List (List SRow))×Int×Int×Int×(List Sspot)×(List Sspot)→Option (((List Int)×Int×(List (List SRow))×Int×Int×Int×(List Sspot)×(List Sspot))⊕(Ex ((List Int)×Int×(List (List SRow))×Int×Int×Int×(List Sspot)×(List Sspot)) (Bool×(List Int)×Int×(List (List SRow))×Int×Int×Int×(List Sspot)×(List Sspot)))):=fun (m21,m22,m23,m24,m25,m26,m27,m28)=>
 (idx m21 k2).bind fun x42=>
 (idx p1.Box k2).bind fun x43=>
 cond (decide (x42<x43))
  ((self p1 (IntKind.wrap .i64 (k2+1)) m21 m22 m23 m24 m25 m26 m27 m28).bind fun ((r44,r45,r46,r47,r48,r49,r50,r51,r52):Bool×(List Int)×Int×(List (List SRow))×Int×Int×Int×(List Sspot)×(List Sspot))=>
   bif Nat.beq (List.length r45) (List.length m21) then
   cond (!r44)
    (some (.inr (.ret (false,r45,r46,r47,r48,r49,r50,r51,r52))))
    ((idx r45 k2).bind fun x53=>
    (idx r45 k2).bind fun x54=>
    some (.inl (r45.set k2.toNat (IntKind.wrap .i64 (x53+1)),r46,r47,r48,r49,r50,r51,r52)))
   else none)
  (some (.inr (.brk (m21,m22,m23,m24,m25,m26,m27,m28))))
def points_walk_4_b (self:SPoints→Int→(List Int)→Int→(List (List SRow))→Int→Int→Int→(List Sspot)→(List Sspot)→Option (Bool×(List Int)×Int×(List (List SRow))×Int×Int×Int×(List Sspot)×(List Sspot))) (fu:Nat) (p1:SPoints) (k2:Int) (m3:List Int) (m4:Int) (m5:List (List SRow)) (m6:Int) (m7:Int) (m8:Int) (m9:List Sspot) (m10:List Sspot):Option (Bool×(List Int)×Int×(List (List SRow))×Int×Int×Int×(List Sspot)×(List Sspot)):=
 (points_hopeless fu p1 m3 k2).bind fun (r11:Bool)=>
 cond r11
  (some (true,m3,m4,m5,m6,m7,m8,m9,m10))
  (cond (k2==(p1.Box.length:Int))
    ((slices_Clone fu m3).bind fun (r12:List Int)=>
    (chk (m4=0)).bind fun _=>
    (order_spots_y_3 fu r12 m5 m6 m7 m8 m9 m10).bind fun ((r13,r14,r15,r16,r17,r18,r19):Int×(List (List SRow))×Int×Int×Int×(List Sspot)×(List Sspot))=>
    cond (r13==0)
     (some (true,m3,0,r14,r15,r16,r17,r18,r19))
     (some (false,m3,r13,r14,r15,r16,r17,r18,r19)))
    ((idx m3 k2).bind fun x20=>
    bindE (fun r=>r) (loopF (points_walk_4_l1 self fu p1 k2) fu (m3.set k2.toNat 0,m4,m5,m6,m7,m8,m9,m10):Option (Ex ((List Int)×Int×(List (List SRow))×Int×Int×Int×(List Sspot)×(List Sspot)) (Bool×(List Int)×Int×(List (List SRow))×Int×Int×Int×(List Sspot)×(List Sspot)))) fun ((m55,m56,m57,m58,m59,m60,m61,m62):(List Int)×Int×(List (List SRow))×Int×Int×Int×(List Sspot)×(List Sspot))=>
    some (true,m55,m56,m57,m58,m59,m60,m61,m62)))
def points_walk_4:Nat→SPoints→Int→(List Int)→Int→(List (List SRow))→Int→Int→Int→(List Sspot)→(List Sspot)→Option (Bool×(List Int)×Int×(List (List SRow))×Int×Int×Int×(List Sspot)×(List Sspot))
 | 0=>fun _ _ _ _ _ _ _ _ _ _=>none
 | fu+1=>points_walk_4_b (points_walk_4 fu) (fu+1)
def points_All_1 (fu:Nat) (m1:Int) (m2:List Int) (m3:List SRow) (m4:List (List SRow)) (m5:Int) (m6:Int) (m7:Int) (m8:List Sspot) (m9:List Sspot):Option (Int×(List Int)×(List SRow)×(List (List SRow))×Int×Int×Int×(List Sspot)×(List Sspot)):=
 (points_Wrong fu (⟨m2,m3⟩:SPoints)).bind fun (r10:Int)=>
 (cond (r10==0)
   ((chk ((0:Int)≤(m2.length:Int)∧(m2.length:Int)≤(m2.length:Int)∧((8:Nat):Int)*(m2.length:Int)≤281474976710656∧(m2.length:Int)≤9223372036854775807)).bind fun _=>
    (points_walk_4 fu (⟨m2,m3⟩:SPoints) 0 (List.replicate (Int.toNat (m2.length:Int)) (0:Int)) m1 m4 m5 m6 m7 m8 m9).bind fun ((r11,r12,r13,r14,r15,r16,r17,r18,r19):Bool×(List Int)×Int×(List (List SRow))×Int×Int×Int×(List Sspot)×(List Sspot))=>
    bif Nat.beq (List.length r12) (List.length (List.replicate (Int.toNat (m2.length:Int)) (0:Int))) then
    some (r13,r14,r15,r16,r17,r18,r19)
    else none)
   (some (m1,m4,m5,m6,m7,m8,m9))).bind fun ((m20,m21,m22,m23,m24,m25,m26):Int×(List (List SRow))×Int×Int×Int×(List Sspot)×(List Sspot))=>
 some (m20,m2,m3,m21,m22,m23,m24,m25,m26)
def order_spots_l1 (fu:Nat) (times2:List (List SRow)):Int×Int→Option ((Int×Int)⊕Int):=fun (v4,m5)=>
 cond (decide (v4<(times2.length:Int)))
  ((idx times2 v4).bind fun x6=>
   some (.inl (IntKind.wrap .i64 (v4+1),(if (x6.length:Int)>m5 then(x6.length:Int) else m5))))
  (some (.inr m5))
def order_spots_l2 (fu:Nat) (n1:SNest):Int×(List (List SRow))×Int×Int×(List Sspot)×(List Sspot)→Option ((Int×(List (List SRow))×Int×Int×(List Sspot)×(List Sspot))⊕(Ex ((List (List SRow))×Int×Int×(List Sspot)×(List Sspot)) (Int×(List Sspot)))):=fun (v8,m9,m10,m11,m12,m13)=>
 cond (decide (v8<(n1.Stmts.length:Int)))
  ((idx n1.Stmts v8).bind fun x14=>
   (points_All fu x14.Over).bind fun ((r15,r16):(List Int)×(List SRow))=>
   (points_All_1 fu 0 r15 r16 m9 m10 m11 v8 m12 m13).bind fun ((r17,r18,r19,r20,r21,r22,r23,r24,r25):Int×(List Int)×(List SRow)×(List (List SRow))×Int×Int×Int×(List Sspot)×(List Sspot))=>
   cond (r17==0)
    (some (.inl (IntKind.wrap .i64 (v8+1),r20,r21,r22,r24,r25)))
    (cond (r17==1)
     (none)
     (some (.inr (.ret (r21,r24))))))
  (some (.inr (.brk (m9,m10,m11,m12,m13))))
def order_spots (fu:Nat) (n1:SNest) (times2:List (List SRow)):Option (Int×(List Sspot)):=
 (order_Wrong fu n1 times2).bind fun (r3:Int)=>
 cond (r3 !=0)
  (some (r3,([]:List Sspot)))
  ((loopF (order_spots_l1 fu times2) fu (0,0)).bind fun (m7:Int)=>
   bindE (fun r=>r) (loopF (order_spots_l2 fu n1) fu (0,times2,0,m7,([]:List Sspot),([]:List Sspot)):Option (Ex ((List (List SRow))×Int×Int×(List Sspot)×(List Sspot)) (Int×(List Sspot)))) fun ((m26,m27,m28,m29,m30):(List (List SRow))×Int×Int×(List Sspot)×(List Sspot))=>
   some (0,m30))
def slices_Clone_2 (fu:Nat) (s1:List Int):Option (List Int):=
 nilF (s1.length:Int) (some ([]:List Int)) ((chk (([]:List Int).length+s1.length≤maxLen∧(([]:List Int).length+s1.length)*8≤140737488355328)).bind fun _=>
 some (([]:List Int)++s1))
def nest_Copied_l1 (fu:Nat) (n1:SNest) (mem2:List (List Int)):Int×(List (List Int))→Option ((Int×(List (List Int)))⊕(Ex (List (List Int)) (Int×(List (List Int))))):=fun (v3,m4)=>
 cond (decide (v3<(mem2.length:Int)))
  ((idx mem2 v3).bind fun x5=>
   (idx n1.Sizes v3).bind fun x6=>
   cond ((x5.length:Int) !=x6)
    (some (.inr (.ret (6,([]:List (List Int))))))
    ((slices_Clone_2 fu x5).bind fun (r7:List Int)=>
    (chk ((0:Int)≤v3∧v3<(m4.length:Int))).bind fun _=>
    (chk (v3.toNat<m4.length)).bind fun _=>
    some (.inl (IntKind.wrap .i64 (v3+1),m4.set v3.toNat r7))))
  (some (.inr (.brk m4)))
def nest_Copied (fu:Nat) (n1:SNest) (mem2:List (List Int)):Option (Int×(List (List Int))):=
 cond ((mem2.length:Int) !=(n1.Sizes.length:Int))
  (some (2,([]:List (List Int))))
  ((chk ((0:Int)≤(mem2.length:Int)∧(mem2.length:Int)≤(mem2.length:Int)∧((24:Nat):Int)*(mem2.length:Int)≤281474976710656∧(mem2.length:Int)≤9223372036854775807)).bind fun _=>
   (chk (allNil (List.replicate (Int.toNat (mem2.length:Int)) ([]:List Int))=true)).bind fun _=>
   bindE (fun r=>r) (loopF (nest_Copied_l1 fu n1 mem2) fu (0,List.replicate (Int.toNat (mem2.length:Int)) ([]:List Int)):Option (Ex (List (List Int)) (Int×(List (List Int))))) fun (m8:List (List Int))=>
   some (0,m8))
def cmp_isNaN (fu:Nat) (x1:Int):Option (Bool):=
 some (x1 !=x1)
def cmp_Compare (fu:Nat) (x1:Int) (y2:Int):Option (Int):=
 (cmp_isNaN fu x1).bind fun (r3:Bool)=>
 (cmp_isNaN fu y2).bind fun (r4:Bool)=>
 cond r3
  (cond r4
    (some 0)
    (some (-1)))
  (cond r4
    (some 1)
    (cond (decide (x1<y2))
     (some (-1))
     (cond (decide (x1>y2))
       (some 1)
       (some 0))))
def slices_Compare_l1 (fu:Nat) (s1:List Int) (s2:List Int):Int→Option (Int⊕(Ex Unit Int)):=fun v3=>
 cond (decide (v3<(s1.length:Int)))
  ((idx s1 v3).bind fun x4=>
   cond (decide (v3≥(s2.length:Int)))
    (some (.inr (.ret 1)))
    ((idx s2 v3).bind fun x5=>
    (cmp_Compare fu x4 x5).bind fun (r6:Int)=>
    cond (r6 !=0)
     (some (.inr (.ret r6)))
     (some (.inl (IntKind.wrap .i64 (v3+1))))))
  (some (.inr (.brk ())))
def slices_Compare (fu:Nat) (s1:List Int) (s2:List Int):Option (Int):=
 bindE (fun r=>r) (loopF (slices_Compare_l1 fu s1 s2) fu 0:Option (Ex Unit Int)) fun (_:Unit)=>
 cond (decide ((s1.length:Int)<(s2.length:Int)))
  (some (-1))
  (some 0)
def order_Run_1 (fu:Nat) (a1:Sspot) (b2:Sspot):Option (Int):=
 (slices_Compare fu a1.time b2.time).bind fun (r3:Int)=>
 some r3
def slices_insertionSortCmpFunc_l1 (fu:Nat) (a1:Int):Int×(List Sspot)→Option ((Int×(List Sspot))⊕(List Sspot)):=fun (j6,m7)=>
 (cond (decide (j6>a1)) ((idx m7 j6).bind fun x8=>
  (idx m7 (IntKind.wrap .i64 (j6-1))).bind fun x9=>
  (order_Run_1 fu x8 x9).bind fun (r10:Int)=>
  some (decide (r10<0))) (some false)).bind fun (v11:Bool)=>
 cond v11
  (((idx m7 (IntKind.wrap .i64 (j6-1))).bind fun x12=>
    (idx m7 j6).bind fun x13=>
    amb2 ((idx m7 j6).bind fun x14=>
    (idx (m7.set j6.toNat x12) (IntKind.wrap .i64 (j6-1))).bind fun x15=>
    some ((m7.set j6.toNat x12).set ((IntKind.wrap .i64 (j6-1)).toNat) x13))).bind fun (m16:List Sspot)=>
   some (.inl (IntKind.wrap .i64 (j6-1),m16)))
  (some (.inr m7))
def slices_insertionSortCmpFunc_l2 (fu:Nat) (a1:Int) (b2:Int):Int×(List Sspot)→Option ((Int×(List Sspot))⊕(List Sspot)):=fun (i4,m5)=>
 cond (decide (i4<b2))
  ((loopF (slices_insertionSortCmpFunc_l1 fu a1) fu (i4,m5)).bind fun (m17:List Sspot)=>
   some (.inl (IntKind.wrap .i64 (i4+1),m17)))
  (some (.inr m5))
def slices_insertionSortCmpFunc (fu:Nat) (a1:Int) (b2:Int) (m3:List Sspot):Option (List Sspot):=
 (loopF (slices_insertionSortCmpFunc_l2 fu a1 b2) fu (IntKind.wrap .i64 (a1+1),m3)).bind fun (m18:List Sspot)=>
 some m18
def slices_swapRangeCmpFunc_l1 (fu:Nat) (a1:Int) (b2:Int) (n3:Int):Int×(List Sspot)→Option ((Int×(List Sspot))⊕(List Sspot)):=fun (i5,m6)=>
 cond (decide (i5<n3))
  (((idx m6 (IntKind.wrap .i64 (b2+i5))).bind fun x7=>
    (idx m6 (IntKind.wrap .i64 (a1+i5))).bind fun x8=>
    amb2 ((idx m6 (IntKind.wrap .i64 (a1+i5))).bind fun x9=>
    (idx (m6.set ((IntKind.wrap .i64 (a1+i5)).toNat) x7) (IntKind.wrap .i64 (b2+i5))).bind fun x10=>
    some ((m6.set ((IntKind.wrap .i64 (a1+i5)).toNat) x7).set ((IntKind.wrap .i64 (b2+i5)).toNat) x8))).bind fun (m11:List Sspot)=>
   some (.inl (IntKind.wrap .i64 (i5+1),m11)))
  (some (.inr m6))
def slices_swapRangeCmpFunc (fu:Nat) (a1:Int) (b2:Int) (n3:Int) (m4:List Sspot):Option (List Sspot):=
 (loopF (slices_swapRangeCmpFunc_l1 fu a1 b2 n3) fu (0,m4)).bind fun (m12:List Sspot)=>
 some m12
def slices_rotateCmpFunc_l1 (fu:Nat) (m2:Int):Int×Int×(List Sspot)→Option ((Int×Int×(List Sspot))⊕(Int×(List Sspot))):=fun (i5,j6,m7)=>
 cond (i5 !=j6)
  ((cond (decide (i5>j6))
     ((slices_swapRangeCmpFunc fu (IntKind.wrap .i64 (m2-i5)) m2 j6 m7).bind fun (r8:List Sspot)=>
     bif Nat.beq (List.length r8) (List.length m7) then
     some (IntKind.wrap .i64 (i5-j6),j6,r8)
     else none)
     ((slices_swapRangeCmpFunc fu (IntKind.wrap .i64 (m2-i5)) (IntKind.wrap .i64 ((IntKind.wrap .i64 (m2+j6))-i5)) i5 m7).bind fun (r9:List Sspot)=>
     bif Nat.beq (List.length r9) (List.length m7) then
     some (i5,IntKind.wrap .i64 (j6-i5),r9)
     else none)).bind fun ((i10,j11,m12):Int×Int×(List Sspot))=>
   some (.inl (i10,j11,m12)))
  (some (.inr (i5,m7)))
def slices_rotateCmpFunc (fu:Nat) (a1:Int) (m2:Int) (b3:Int) (m4:List Sspot):Option (List Sspot):=
 (loopF (slices_rotateCmpFunc_l1 fu m2) fu (IntKind.wrap .i64 (m2-a1),IntKind.wrap .i64 (b3-m2),m4)).bind fun ((i13,m14):Int×(List Sspot))=>
 (slices_swapRangeCmpFunc fu (IntKind.wrap .i64 (m2-i13)) m2 i13 m14).bind fun (r15:List Sspot)=>
 bif Nat.beq (List.length r15) (List.length m14) then
 some r15
 else none
def slices_symMergeCmpFunc_l1 (self:Int→Int→Int→(List Sspot)→Option (List Sspot)) (fu:Nat) (a1:Int) (m4:List Sspot):Int×Int→Option ((Int×Int)⊕Int):=fun (i5,j6)=>
 cond (decide (i5<j6))
  ((chk ((0:Int)≤1)).bind fun _=>
   (idx m4 (IntKind.wrap .i64 (Int.fdiv (IntKind.wrap .u64 (IntKind.wrap .i64 (i5+j6))) (2^(min (Int.toNat 1) (IntKind.bits .u64)))))).bind fun x7=>
   (idx m4 a1).bind fun x8=>
   (order_Run_1 fu x7 x8).bind fun (r9:Int)=>
   (cond (decide (r9<0))
     (some (IntKind.wrap .i64 ((IntKind.wrap .i64 (Int.fdiv (IntKind.wrap .u64 (IntKind.wrap .i64 (i5+j6))) (2^(min (Int.toNat 1) (IntKind.bits .u64)))))+1),j6))
     (some (i5,IntKind.wrap .i64 (Int.fdiv (IntKind.wrap .u64 (IntKind.wrap .i64 (i5+j6))) (2^(min (Int.toNat 1) (IntKind.bits .u64))))))).bind fun ((i10,j11):Int×Int)=>
   some (.inl (i10,j11)))
  (some (.inr i5))
def slices_symMergeCmpFunc_l2 (self:Int→Int→Int→(List Sspot)→Option (List Sspot)) (fu:Nat) (i12:Int):Int×(List Sspot)→Option ((Int×(List Sspot))⊕(List Sspot)):=fun (k13,m14)=>
 cond (decide (k13<(IntKind.wrap .i64 (i12-1))))
  (((idx m14 (IntKind.wrap .i64 (k13+1))).bind fun x15=>
    (idx m14 k13).bind fun x16=>
    amb2 ((idx m14 k13).bind fun x17=>
    (idx (m14.set k13.toNat x15) (IntKind.wrap .i64 (k13+1))).bind fun x18=>
    some ((m14.set k13.toNat x15).set ((IntKind.wrap .i64 (k13+1)).toNat) x16))).bind fun (m19:List Sspot)=>
   some (.inl (IntKind.wrap .i64 (k13+1),m19)))
  (some (.inr m14))
def slices_symMergeCmpFunc_l3 (self:Int→Int→Int→(List Sspot)→Option (List Sspot)) (fu:Nat) (m2:Int) (m4:List Sspot):Int×Int→Option ((Int×Int)⊕Int):=fun (i21,j22)=>
 cond (decide (i21<j22))
  ((chk ((0:Int)≤1)).bind fun _=>
   (idx m4 m2).bind fun x23=>
   (idx m4 (IntKind.wrap .i64 (Int.fdiv (IntKind.wrap .u64 (IntKind.wrap .i64 (i21+j22))) (2^(min (Int.toNat 1) (IntKind.bits .u64)))))).bind fun x24=>
   (order_Run_1 fu x23 x24).bind fun (r25:Int)=>
   (cond (!(decide (r25<0)))
     (some (IntKind.wrap .i64 ((IntKind.wrap .i64 (Int.fdiv (IntKind.wrap .u64 (IntKind.wrap .i64 (i21+j22))) (2^(min (Int.toNat 1) (IntKind.bits .u64)))))+1),j22))
     (some (i21,IntKind.wrap .i64 (Int.fdiv (IntKind.wrap .u64 (IntKind.wrap .i64 (i21+j22))) (2^(min (Int.toNat 1) (IntKind.bits .u64))))))).bind fun ((i26,j27):Int×Int)=>
   some (.inl (i26,j27)))
  (some (.inr i21))
def slices_symMergeCmpFunc_l4 (self:Int→Int→Int→(List Sspot)→Option (List Sspot)) (fu:Nat) (i28:Int):Int×(List Sspot)→Option ((Int×(List Sspot))⊕(List Sspot)):=fun (k29,m30)=>
 cond (decide (k29>i28))
  (((idx m30 (IntKind.wrap .i64 (k29-1))).bind fun x31=>
    (idx m30 k29).bind fun x32=>
    amb2 ((idx m30 k29).bind fun x33=>
    (idx (m30.set k29.toNat x31) (IntKind.wrap .i64 (k29-1))).bind fun x34=>
    some ((m30.set k29.toNat x31).set ((IntKind.wrap .i64 (k29-1)).toNat) x32))).bind fun (m35:List Sspot)=>
   some (.inl (IntKind.wrap .i64 (k29-1),m35)))
  (some (.inr m30))
def slices_symMergeCmpFunc_l5 (self:Int→Int→Int→(List Sspot)→Option (List Sspot)) (fu:Nat) (a1:Int) (m2:Int) (b3:Int) (m4:List Sspot):Int×Int→Option ((Int×Int)⊕Int):=fun (start39,r40)=>
 cond (decide (start39<r40))
  ((chk ((0:Int)≤1)).bind fun _=>
   (idx m4 (IntKind.wrap .i64 ((IntKind.wrap .i64 ((IntKind.wrap .i64 ((IntKind.wrap .i64 (Int.fdiv (IntKind.wrap .u64 (IntKind.wrap .i64 (a1+b3))) (2^(min (Int.toNat 1) (IntKind.bits .u64)))))+m2))-1))-(IntKind.wrap .i64 (Int.fdiv (IntKind.wrap .u64 (IntKind.wrap .i64 (start39+r40))) (2^(min (Int.toNat 1) (IntKind.bits .u64)))))))).bind fun x41=>
   (idx m4 (IntKind.wrap .i64 (Int.fdiv (IntKind.wrap .u64 (IntKind.wrap .i64 (start39+r40))) (2^(min (Int.toNat 1) (IntKind.bits .u64)))))).bind fun x42=>
   (order_Run_1 fu x41 x42).bind fun (r43:Int)=>
   (cond (!(decide (r43<0)))
     (some (IntKind.wrap .i64 ((IntKind.wrap .i64 (Int.fdiv (IntKind.wrap .u64 (IntKind.wrap .i64 (start39+r40))) (2^(min (Int.toNat 1) (IntKind.bits .u64)))))+1),r40))
     (some (start39,IntKind.wrap .i64 (Int.fdiv (IntKind.wrap .u64 (IntKind.wrap .i64 (start39+r40))) (2^(min (Int.toNat 1) (IntKind.bits .u64))))))).bind fun ((start44,r45):Int×Int)=>
   some (.inl (start44,r45)))
  (some (.inr start39))
def slices_symMergeCmpFunc_b (self:Int→Int→Int→(List Sspot)→Option (List Sspot)) (fu:Nat) (a1:Int) (m2:Int) (b3:Int) (m4:List Sspot):Option (List Sspot):=
 cond ((IntKind.wrap .i64 (m2-a1))==1)
  ((loopF (slices_symMergeCmpFunc_l1 self fu a1 m4) fu (m2,b3)).bind fun (i12:Int)=>
   (loopF (slices_symMergeCmpFunc_l2 self fu i12) fu (a1,m4)).bind fun (m20:List Sspot)=>
   some m20)
  (cond ((IntKind.wrap .i64 (b3-m2))==1)
    ((loopF (slices_symMergeCmpFunc_l3 self fu m2 m4) fu (a1,m2)).bind fun (i28:Int)=>
    (loopF (slices_symMergeCmpFunc_l4 self fu i28) fu (m2,m4)).bind fun (m36:List Sspot)=>
    some m36)
    ((chk ((0:Int)≤1)).bind fun _=>
    (cond (decide (m2>(IntKind.wrap .i64 (Int.fdiv (IntKind.wrap .u64 (IntKind.wrap .i64 (a1+b3))) (2^(min (Int.toNat 1) (IntKind.bits .u64)))))))
      (some (IntKind.wrap .i64 ((IntKind.wrap .i64 ((IntKind.wrap .i64 (Int.fdiv (IntKind.wrap .u64 (IntKind.wrap .i64 (a1+b3))) (2^(min (Int.toNat 1) (IntKind.bits .u64)))))+m2))-b3),IntKind.wrap .i64 (Int.fdiv (IntKind.wrap .u64 (IntKind.wrap .i64 (a1+b3))) (2^(min (Int.toNat 1) (IntKind.bits .u64))))))
      (some (a1,m2))).bind fun ((start37,r38):Int×Int)=>
    (loopF (slices_symMergeCmpFunc_l5 self fu a1 m2 b3 m4) fu (start37,r38)).bind fun (start46:Int)=>
    (cond (decide (start46<m2)) (some (decide (m2<(IntKind.wrap .i64 ((IntKind.wrap .i64 ((IntKind.wrap .i64 (Int.fdiv (IntKind.wrap .u64 (IntKind.wrap .i64 (a1+b3))) (2^(min (Int.toNat 1) (IntKind.bits .u64)))))+m2))-start46))))) (some false)).bind fun (v47:Bool)=>
    (cond v47
      ((slices_rotateCmpFunc fu start46 m2 (IntKind.wrap .i64 ((IntKind.wrap .i64 ((IntKind.wrap .i64 (Int.fdiv (IntKind.wrap .u64 (IntKind.wrap .i64 (a1+b3))) (2^(min (Int.toNat 1) (IntKind.bits .u64)))))+m2))-start46)) m4).bind fun (r48:List Sspot)=>
       bif Nat.beq (List.length r48) (List.length m4) then
       some r48
       else none)
      (some m4)).bind fun (m49:List Sspot)=>
    (cond (decide (a1<start46)) (some (decide (start46<(IntKind.wrap .i64 (Int.fdiv (IntKind.wrap .u64 (IntKind.wrap .i64 (a1+b3))) (2^(min (Int.toNat 1) (IntKind.bits .u64)))))))) (some false)).bind fun (v50:Bool)=>
    (cond v50
      ((self a1 start46 (IntKind.wrap .i64 (Int.fdiv (IntKind.wrap .u64 (IntKind.wrap .i64 (a1+b3))) (2^(min (Int.toNat 1) (IntKind.bits .u64))))) m49).bind fun (r51:List Sspot)=>
       bif Nat.beq (List.length r51) (List.length m49) then
       some r51
       else none)
      (some m49)).bind fun (m52:List Sspot)=>
    (cond (decide ((IntKind.wrap .i64 (Int.fdiv (IntKind.wrap .u64 (IntKind.wrap .i64 (a1+b3))) (2^(min (Int.toNat 1) (IntKind.bits .u64)))))<(IntKind.wrap .i64 ((IntKind.wrap .i64 ((IntKind.wrap .i64 (Int.fdiv (IntKind.wrap .u64 (IntKind.wrap .i64 (a1+b3))) (2^(min (Int.toNat 1) (IntKind.bits .u64)))))+m2))-start46)))) (some (decide ((IntKind.wrap .i64 ((IntKind.wrap .i64 ((IntKind.wrap .i64 (Int.fdiv (IntKind.wrap .u64 (IntKind.wrap .i64 (a1+b3))) (2^(min (Int.toNat 1) (IntKind.bits .u64)))))+m2))-start46))<b3))) (some false)).bind fun (v53:Bool)=>
    (cond v53
      ((self (IntKind.wrap .i64 (Int.fdiv (IntKind.wrap .u64 (IntKind.wrap .i64 (a1+b3))) (2^(min (Int.toNat 1) (IntKind.bits .u64))))) (IntKind.wrap .i64 ((IntKind.wrap .i64 ((IntKind.wrap .i64 (Int.fdiv (IntKind.wrap .u64 (IntKind.wrap .i64 (a1+b3))) (2^(min (Int.toNat 1) (IntKind.bits .u64)))))+m2))-start46)) b3 m52).bind fun (r55:List Sspot)=>
       bif Nat.beq (List.length r55) (List.length m52) then
       some r55
       else none)
      (some m52)).bind fun (m56:List Sspot)=>
    some m56))
def slices_symMergeCmpFunc:Nat→Int→Int→Int→(List Sspot)→Option (List Sspot)
 | 0=>fun _ _ _ _=>none
 | fu+1=>slices_symMergeCmpFunc_b (slices_symMergeCmpFunc fu) (fu+1)
def slices_stableCmpFunc_l1 (fu:Nat) (n1:Int):Int×Int×(List Sspot)→Option ((Int×Int×(List Sspot))⊕(Int×(List Sspot))):=fun (a3,b4,m5)=>
 cond (decide (b4≤n1))
  ((slices_insertionSortCmpFunc fu a3 b4 m5).bind fun (r6:List Sspot)=>
   bif Nat.beq (List.length r6) (List.length m5) then
   some (.inl (b4,IntKind.wrap .i64 (b4+20),r6))
   else none)
  (some (.inr (a3,m5)))
def slices_stableCmpFunc_l2 (fu:Nat) (n1:Int) (blockSize10:Int):Int×Int×(List Sspot)→Option ((Int×Int×(List Sspot))⊕(Int×(List Sspot))):=fun (a12,b13,m14)=>
 cond (decide (b13≤n1))
  ((slices_symMergeCmpFunc fu a12 (IntKind.wrap .i64 (a12+blockSize10)) b13 m14).bind fun (r15:List Sspot)=>
   bif Nat.beq (List.length r15) (List.length m14) then
   some (.inl (b13,IntKind.wrap .i64 (b13+(IntKind.wrap .i64 (2*blockSize10))),r15))
   else none)
  (some (.inr (a12,m14)))
def slices_stableCmpFunc_l3 (fu:Nat) (n1:Int):Int×(List Sspot)→Option ((Int×(List Sspot))⊕(List Sspot)):=fun (blockSize10,m11)=>
 cond (decide (blockSize10<n1))
  ((loopF (slices_stableCmpFunc_l2 fu n1 blockSize10) fu (0,IntKind.wrap .i64 (2*blockSize10),m11)).bind fun ((a16,m17):Int×(List Sspot))=>
   (cond (decide ((IntKind.wrap .i64 (a16+blockSize10))<n1))
     ((slices_symMergeCmpFunc fu a16 (IntKind.wrap .i64 (a16+blockSize10)) n1 m17).bind fun (r18:List Sspot)=>
     bif Nat.beq (List.length r18) (List.length m17) then
     some r18
     else none)
     (some m17)).bind fun (m19:List Sspot)=>
   some (.inl (IntKind.wrap .i64 (blockSize10*2),m19)))
  (some (.inr m11))
def slices_stableCmpFunc (fu:Nat) (n1:Int) (m2:List Sspot):Option (List Sspot):=
 (loopF (slices_stableCmpFunc_l1 fu n1) fu (0,20,m2)).bind fun ((a7,m8):Int×(List Sspot))=>
 (slices_insertionSortCmpFunc fu a7 n1 m8).bind fun (r9:List Sspot)=>
 bif Nat.beq (List.length r9) (List.length m8) then
 (loopF (slices_stableCmpFunc_l3 fu n1) fu (20,r9)).bind fun (m20:List Sspot)=>
 some m20
 else none
def slices_SortStableFunc (fu:Nat) (m1:List Sspot):Option (List Sspot):=
 (slices_stableCmpFunc fu (m1.length:Int) m1).bind fun (r2:List Sspot)=>
 bif Nat.beq (List.length r2) (List.length m1) then
 some r2
 else none
def slices_Equal_l1 (fu:Nat) (s1:List Int) (s2:List Int):Int→Option (Int⊕(Ex Unit Bool)):=fun v3=>
 cond (decide (v3<(s1.length:Int)))
  ((idx s1 v3).bind fun x4=>
   (idx s2 v3).bind fun x5=>
   cond (x4 !=x5)
    (some (.inr (.ret false)))
    (some (.inl (IntKind.wrap .i64 (v3+1)))))
  (some (.inr (.brk ())))
def slices_Equal (fu:Nat) (s1:List Int) (s2:List Int):Option (Bool):=
 cond ((s1.length:Int) !=(s2.length:Int))
  (some false)
  (bindE (fun r=>r) (loopF (slices_Equal_l1 fu s1 s2) fu 0:Option (Ex Unit Bool)) fun (_:Unit)=>
   some true)
def slices_Clone_3 (fu:Nat) (s1:Int) (s2:Int) (m3:List Sspot):Option ((List Sspot)×(List Sspot)):=
 nilF (((Int.toNat s2):Nat):Int) (some (m3,([]:List Sspot))) ((chk ((Int.toNat s1)+(Int.toNat s2)≤m3.length)).bind fun _=>
 (chk (([]:List Sspot).length+((m3.drop (Int.toNat s1)).take (Int.toNat s2)).length≤maxLen∧(([]:List Sspot).length+((m3.drop (Int.toNat s1)).take (Int.toNat s2)).length)*64≤140737488355328)).bind fun _=>
 some (m3,([]:List Sspot)++((m3.drop (Int.toNat s1)).take (Int.toNat s2))))
def nest_Memory_Place (fu:Nat) (a1:SAccess) (x2:List Int) (m3:List (List Int)):Option (Bool×Int×Int×(List (List Int))):=
 (points_At fu a1.At x2).bind fun (r4:Int)=>
 (cond (decide (r4<0)) (some true) ((chk ((0:Int)≤a1.Array∧a1.Array<(m3.length:Int))).bind fun _=>
  (m3[a1.Array.toNat]?).bind fun x5=>
  some (decide (r4≥((List.length x5:Nat):Int))))).bind fun (v6:Bool)=>
 cond v6
  (some (true,0,0,m3))
  ((chk ((0:Int)≤a1.Array∧a1.Array<(m3.length:Int))).bind fun _=>
   (m3[a1.Array.toNat]?).bind fun x7=>
   (chk ((0:Int)≤r4∧r4<((List.length x7:Nat):Int))).bind fun _=>
   some (false,((a1.Array.toNat:Nat):Int),((r4.toNat:Nat):Int),m3))
def nest_Memory_get (fu:Nat) (a1:SAccess) (x2:List Int) (m3:List (List Int)):Option (Int×(List (List Int))):=
 (nest_Memory_Place fu a1 x2 m3).bind fun ((r4,r5,r6,r7):Bool×Int×Int×(List (List Int)))=>
 bif Nat.beq (List.length r7) (List.length m3) then
 cond (!r4)
  ((chk (r4=false)).bind fun _=>
   (r7[(Int.toNat r5)]?).bind fun x8=>
   (x8[(Int.toNat r6)]?).bind fun x9=>
   some (x9,r7))
  (some (0,r7))
 else none
def nest_Memory_Do_l1 (fu:Nat) (s1:SStmt) (x2:List Int):Int×(List (List Int))×(List Int)→Option ((Int×(List (List Int))×(List Int))⊕((List (List Int))×(List Int))):=fun (v4,m5,m6)=>
 cond (decide (v4<(s1.Get.length:Int)))
  ((idx s1.Get v4).bind fun x7=>
   (nest_Memory_get fu x7 x2 m5).bind fun ((r8,r9):Int×(List (List Int)))=>
   bif Nat.beq (List.length r9) (List.length m5) then
   (idx m6 v4).bind fun x10=>
   some (.inl (IntKind.wrap .i64 (v4+1),r9,m6.set v4.toNat r8))
   else none)
  (some (.inr (m5,m6)))
def nest_Memory_Do (fu:Nat) (s1:SStmt) (x2:List Int) (m3:List (List Int)):Option (List (List Int)):=
 (chk ((0:Int)≤3∧3≤3∧((8:Nat):Int)*3≤281474976710656∧3≤9223372036854775807)).bind fun _=>
 (loopF (nest_Memory_Do_l1 fu s1 x2) fu (0,m3,List.replicate (Int.toNat 3) (0:Int))).bind fun ((m11,m12):(List (List Int))×(List Int))=>
 (nest_Memory_Place fu s1.Put x2 m11).bind fun ((r13,r14,r15,r16):Bool×Int×Int×(List (List Int)))=>
 bif Nat.beq (List.length r16) (List.length m11) then
 cond r13
  (some r16)
  ((cond (s1.Do==1)
     ((chk (r13=false)).bind fun _=>
     (r16[(Int.toNat r14)]?).bind fun x17=>
     (chk ((Int.toNat r15)<x17.length)).bind fun _=>
     some (r16.set (Int.toNat r14) (x17.set (Int.toNat r15) s1.Value)))
     ((cond (s1.Do==2)
       ((idx m12 0).bind fun x18=>
        (chk (r13=false)).bind fun _=>
        (r16[(Int.toNat r14)]?).bind fun x19=>
        (chk ((Int.toNat r15)<x19.length)).bind fun _=>
        some (r16.set (Int.toNat r14) (x19.set (Int.toNat r15) x18)))
       ((cond (s1.Do==3)
          ((idx m12 0).bind fun x20=>
          (idx m12 1).bind fun x21=>
          (chk (r13=false)).bind fun _=>
          (r16[(Int.toNat r14)]?).bind fun x22=>
          (chk ((Int.toNat r15)<x22.length)).bind fun _=>
          some (r16.set (Int.toNat r14) (x22.set (Int.toNat r15) (IntKind.wrap .i64 (x20+x21)))))
          ((cond (s1.Do==4)
            ((idx m12 0).bind fun x23=>
             (idx m12 1).bind fun x24=>
             (chk (r13=false)).bind fun _=>
             (r16[(Int.toNat r14)]?).bind fun x25=>
             (chk ((Int.toNat r15)<x25.length)).bind fun _=>
             some (r16.set (Int.toNat r14) (x25.set (Int.toNat r15) (IntKind.wrap .i64 (x23-x24)))))
            ((cond (s1.Do==5)
               ((idx m12 0).bind fun x26=>
               (idx m12 1).bind fun x27=>
               (chk (r13=false)).bind fun _=>
               (r16[(Int.toNat r14)]?).bind fun x28=>
               (chk ((Int.toNat r15)<x28.length)).bind fun _=>
               some (r16.set (Int.toNat r14) (x28.set (Int.toNat r15) (IntKind.wrap .i64 (x26*x27)))))
               ((cond (s1.Do==6)
                 ((idx m12 0).bind fun x29=>
                  (idx m12 1).bind fun x30=>
                  (chk (r13=false)).bind fun _=>
                  (r16[(Int.toNat r14)]?).bind fun x31=>
                  (chk ((Int.toNat r15)<x31.length)).bind fun _=>
                  some (r16.set (Int.toNat r14) (x31.set (Int.toNat r15) (if x30>x29 then x30 else x29))))
                 ((cond (s1.Do==7)
                    ((chk (r13=false)).bind fun _=>
                    (r16[(Int.toNat r14)]?).bind fun x32=>
                    (chk ((Int.toNat r15)<x32.length)).bind fun _=>
                    (idx m12 0).bind fun x33=>
                    (idx m12 1).bind fun x34=>
                    (cond (decide (x33<x34))
                      ((chk (r13=false)).bind fun _=>
                       ((r16.set (Int.toNat r14) (x32.set (Int.toNat r15) 0))[(Int.toNat r14)]?).bind fun x35=>
                       (chk ((Int.toNat r15)<x35.length)).bind fun _=>
                       some ((r16.set (Int.toNat r14) (x32.set (Int.toNat r15) 0)).set (Int.toNat r14) (x35.set (Int.toNat r15) 1)))
                      (some (r16.set (Int.toNat r14) (x32.set (Int.toNat r15) 0)))).bind fun (m36:List (List Int))=>
                    some m36)
                    ((cond (s1.Do==8)
                      ((idx m12 2).bind fun x37=>
                       (chk (r13=false)).bind fun _=>
                       (r16[(Int.toNat r14)]?).bind fun x38=>
                       (chk ((Int.toNat r15)<x38.length)).bind fun _=>
                       (idx m12 0).bind fun x39=>
                       (cond (x39 !=0)
                         ((idx m12 1).bind fun x40=>
                         (chk (r13=false)).bind fun _=>
                         ((r16.set (Int.toNat r14) (x38.set (Int.toNat r15) x37))[(Int.toNat r14)]?).bind fun x41=>
                         (chk ((Int.toNat r15)<x41.length)).bind fun _=>
                         some ((r16.set (Int.toNat r14) (x38.set (Int.toNat r15) x37)).set (Int.toNat r14) (x41.set (Int.toNat r15) x40)))
                         (some (r16.set (Int.toNat r14) (x38.set (Int.toNat r15) x37)))).bind fun (m42:List (List Int))=>
                       some m42)
                      ((cond (s1.Do==9)
                         ((chk (r13=false)).bind fun _=>
                         (idx m12 0).bind fun x43=>
                         (r16[(Int.toNat r14)]?).bind fun x44=>
                         (x44[(Int.toNat r15)]?).bind fun x45=>
                         (chk (r13=false)).bind fun _=>
                         (r16[(Int.toNat r14)]?).bind fun x46=>
                         (chk ((Int.toNat r15)<x46.length)).bind fun _=>
                         some (r16.set (Int.toNat r14) (x46.set (Int.toNat r15) (IntKind.wrap .i64 (x45+x43)))))
                         ((chk (r13=false)).bind fun _=>
                         (idx m12 0).bind fun x47=>
                         (idx m12 1).bind fun x48=>
                         (r16[(Int.toNat r14)]?).bind fun x49=>
                         (x49[(Int.toNat r15)]?).bind fun x50=>
                         (chk (r13=false)).bind fun _=>
                         (r16[(Int.toNat r14)]?).bind fun x51=>
                         (chk ((Int.toNat r15)<x51.length)).bind fun _=>
                         some (r16.set (Int.toNat r14) (x51.set (Int.toNat r15) (IntKind.wrap .i64 (x50+(IntKind.wrap .i64 (x47*x48)))))))).bind fun (m52:List (List Int))=>
                       some m52)).bind fun (m53:List (List Int))=>
                    some m53)).bind fun (m54:List (List Int))=>
                  some m54)).bind fun (m55:List (List Int))=>
               some m55)).bind fun (m56:List (List Int))=>
             some m56)).bind fun (m57:List (List Int))=>
          some m57)).bind fun (m58:List (List Int))=>
        some m58)).bind fun (m59:List (List Int))=>
     some m59)).bind fun (m60:List (List Int))=>
   some m60)
 else none
def slices_Delete_2 (fu:Nat) (s1:Int) (s2:Int) (i3:Int) (j4:Int) (m5:List Sspot):Option (Int×Int×(List Sspot)):=
 (chk ((0:Int)≤i3∧i3≤j4∧j4≤(((Int.toNat s2):Nat):Int)∧(((Int.toNat s2):Nat):Int)≤(((Int.toNat s2):Nat):Int))).bind fun _=>
 cond (i3==j4)
  (some ((((Int.toNat s1):Nat):Int),(((Int.toNat s2):Nat):Int),m5))
  ((chk ((0:Int)≤i3∧i3≤(((Int.toNat s2):Nat):Int))).bind fun _=>
   (chk ((0:Int)≤j4∧j4≤(((Int.toNat s2):Nat):Int))).bind fun _=>
   (chk ((Int.toNat s1)=0∧(Int.toNat i3)+((Int.toNat s2)-Int.toNat j4)≤m5.length∧((Int.toNat s1)+Int.toNat j4)+((Int.toNat s2)-Int.toNat j4)≤m5.length)).bind fun _=>
   (chk ((0:Int)≤((((Int.toNat i3)+((Int.toNat s2)-Int.toNat j4)):Nat):Int)∧((((Int.toNat i3)+((Int.toNat s2)-Int.toNat j4)):Nat):Int)≤(((Int.toNat s2):Nat):Int)∧0+Int.toNat (((Int.toNat s2):Nat):Int)≤(cpy m5 ((List.drop ((Int.toNat s1)+Int.toNat j4) m5).take ((Int.toNat s2)-Int.toNat j4)) (Int.toNat i3) ((Int.toNat s2)-Int.toNat j4)).length)).bind fun _=>
   (chk ((0+Int.toNat ((((Int.toNat i3)+((Int.toNat s2)-Int.toNat j4)):Nat):Int))+(Int.toNat (((Int.toNat s2):Nat):Int)-Int.toNat ((((Int.toNat i3)+((Int.toNat s2)-Int.toNat j4)):Nat):Int))≤(cpy m5 ((List.drop ((Int.toNat s1)+Int.toNat j4) m5).take ((Int.toNat s2)-Int.toNat j4)) (Int.toNat i3) ((Int.toNat s2)-Int.toNat j4)).length)).bind fun _=>
   some (((0:Nat):Int),((((Int.toNat i3)+((Int.toNat s2)-Int.toNat j4)):Nat):Int),cpy (cpy m5 ((List.drop ((Int.toNat s1)+Int.toNat j4) m5).take ((Int.toNat s2)-Int.toNat j4)) (Int.toNat i3) ((Int.toNat s2)-Int.toNat j4)) (List.replicate (Int.toNat (((Int.toNat s2):Nat):Int)-Int.toNat ((((Int.toNat i3)+((Int.toNat s2)-Int.toNat j4)):Nat):Int)) (⟨(⟨0,([]:List Int)⟩:SSpot),0,([]:List Int)⟩:Sspot)) (0+Int.toNat ((((Int.toNat i3)+((Int.toNat s2)-Int.toNat j4)):Nat):Int)) (Int.toNat (((Int.toNat s2):Nat):Int)-Int.toNat ((((Int.toNat i3)+((Int.toNat s2)-Int.toNat j4)):Nat):Int))))
def order_Run_2_2 (fu:Nat) (s1:Sspot) (m2:Int) (m3:Int) (m4:List Sspot):Option (Bool×Int×Int×(List Sspot)):=
 (chk ((0:Int)≤0∧0<(((Int.toNat m3):Nat):Int))).bind fun _=>
 (m4[((Int.toNat m2)+(0:Int).toNat)]?).bind fun x5=>
 (m4[((Int.toNat m2)+(0:Int).toNat)]?).bind fun x6=>
 (slices_Equal fu s1.time x6.time).bind fun (r7:Bool)=>
 some ((!r7),(((Int.toNat m2):Nat):Int),(((Int.toNat m3):Nat):Int),m4)
def slices_IndexFunc_4_l1 (fu:Nat) (s2:Int):Int×Int×Int×Int×Int×(List Sspot)→Option ((Int×Int×Int×Int×Int×(List Sspot))⊕(Ex (Int×Int×(List Sspot)) (Int×(List Sspot)×Int×Int))):=fun (v6,s7,s8,m9,m10,m11)=>
 cond (decide (v6<(((Int.toNat s2):Nat):Int)))
  ((chk ((0:Int)≤v6∧v6<(((Int.toNat s8):Nat):Int))).bind fun _=>
   (m11[((Int.toNat s7)+v6.toNat)]?).bind fun x12=>
   (order_Run_2_2 fu x12 (((Int.toNat m9):Nat):Int) (((Int.toNat m10):Nat):Int) m11).bind fun ((r13,r14,r15,r16):Bool×Int×Int×(List Sspot))=>
   bif Nat.beq (List.length r16) (List.length m11) then
   cond r13
    (some (.inr (.ret (v6,r16,(((Int.toNat r14):Nat):Int),(((Int.toNat r15):Nat):Int)))))
    (some (.inl (IntKind.wrap .i64 (v6+1),(((Int.toNat s7):Nat):Int),(((Int.toNat s8):Nat):Int),(((Int.toNat r14):Nat):Int),(((Int.toNat r15):Nat):Int),r16)))
   else none)
  (some (.inr (.brk ((((Int.toNat m9):Nat):Int),(((Int.toNat m10):Nat):Int),m11))))
def slices_IndexFunc_4 (fu:Nat) (s1:Int) (s2:Int) (m3:List Sspot) (m4:Int) (m5:Int):Option (Int×(List Sspot)×Int×Int):=
 bindE (fun r=>r) (loopF (slices_IndexFunc_4_l1 fu s2) fu (0,(((Int.toNat s1):Nat):Int),(((Int.toNat s2):Nat):Int),(((Int.toNat m4):Nat):Int),(((Int.toNat m5):Nat):Int),m3):Option (Ex (Int×Int×(List Sspot)) (Int×(List Sspot)×Int×Int))) fun ((m17,m18,m19):Int×Int×(List Sspot))=>
 some ((-1),m19,(((Int.toNat m17):Nat):Int),(((Int.toNat m18):Nat):Int))
def order_Run_l1 (fu:Nat) (n1:SNest) (mix4:List Int):Int×Int×Int×(List (List Int))×(List Sspot)→Option ((Int×Int×Int×(List (List Int))×(List Sspot))⊕(Int×(List (List Int))×(List Sspot))):=fun (turn22,now23,now24,m25,m26)=>
 cond (decide ((((Int.toNat now24):Nat):Int)>0))
  ((cond (decide ((mix4.length:Int)>0))
     ((chk ((mix4.length:Int)≠0)).bind fun _=>
     (idx mix4 (Int.tmod turn22 (mix4.length:Int))).bind fun x27=>
     (chk ((((Int.toNat now24):Nat):Int)≠0)).bind fun _=>
     (chk ((((Int.toNat now24):Nat):Int)≠0)).bind fun _=>
     some (Int.tmod (IntKind.wrap .i64 ((Int.tmod x27 (((Int.toNat now24):Nat):Int))+(((Int.toNat now24):Nat):Int))) (((Int.toNat now24):Nat):Int),IntKind.wrap .i64 (turn22+1)))
     (some (0,turn22))).bind fun ((i28,turn29):Int×Int)=>
   (chk ((0:Int)≤i28∧i28<(((Int.toNat now24):Nat):Int))).bind fun _=>
   (m26[((Int.toNat now23)+i28.toNat)]?).bind fun x30=>
   (m26[((Int.toNat now23)+i28.toNat)]?).bind fun x31=>
   (idx n1.Stmts x31.Spot.Stmt).bind fun x32=>
   (chk ((0:Int)≤i28∧i28<(((Int.toNat now24):Nat):Int))).bind fun _=>
   (m26[((Int.toNat now23)+i28.toNat)]?).bind fun x33=>
   (m26[((Int.toNat now23)+i28.toNat)]?).bind fun x34=>
   (nest_Memory_Do fu x32 x34.Spot.At m25).bind fun (r35:List (List Int))=>
   bif Nat.beq (List.length r35) (List.length m25) then
   (slices_Delete_2 fu (((Int.toNat now23):Nat):Int) (((Int.toNat now24):Nat):Int) i28 (IntKind.wrap .i64 (i28+1)) m26).bind fun ((r36,r37,r38):Int×Int×(List Sspot))=>
   bif Nat.beq (List.length r38) (List.length m26) then
   some (.inl (turn29,(((Int.toNat r36):Nat):Int),(((Int.toNat r37):Nat):Int),r35,r38))
   else none
   else none)
  (some (.inr (turn22,m25,m26)))
def order_Run_l2 (fu:Nat) (n1:SNest) (mix4:List Int):Int×(List Sspot)×(List (List Int))×Int×Int→Option ((Int×(List Sspot)×(List (List Int))×Int×Int)⊕((List Sspot)×(List (List Int))×Int×Int)):=fun (turn10,m11,m12,m13,m14)=>
 cond (decide ((((Int.toNat m14):Nat):Int)>0))
  ((slices_IndexFunc_4 fu (((Int.toNat m13):Nat):Int) (((Int.toNat m14):Nat):Int) m11 (((Int.toNat m13):Nat):Int) (((Int.toNat m14):Nat):Int)).bind fun ((r15,r16,r17,r18):Int×(List Sspot)×Int×Int)=>
   bif Nat.beq (List.length r16) (List.length m11) then
   (cond (decide (r15<0))
     (some (((Int.toNat r18):Nat):Int))
     (some r15)).bind fun (k19:Int)=>
   (chk ((0:Int)≤k19∧k19≤(((Int.toNat r18):Nat):Int))).bind fun _=>
   (slices_Clone_3 fu (((Int.toNat r17):Nat):Int) (((Int.toNat k19):Nat):Int) r16).bind fun ((r20,r21):(List Sspot)×(List Sspot))=>
   bif Nat.beq (List.length r20) (List.length r16) then
   (loopF (order_Run_l1 fu n1 mix4) fu (turn10,((0:Nat):Int),((r21.length:Nat):Int),m12,r21)).bind fun ((turn39,m40,m41):Int×(List (List Int))×(List Sspot))=>
   (chk ((0:Int)≤k19∧k19≤(((Int.toNat r18):Nat):Int))).bind fun _=>
   some (.inl (turn39,r20,m40,((((Int.toNat r17)+Int.toNat k19):Nat):Int),((((Int.toNat r18)-Int.toNat k19):Nat):Int)))
   else none
   else none)
  (some (.inr (m11,m12,(((Int.toNat m13):Nat):Int),(((Int.toNat m14):Nat):Int))))
def order_Run (fu:Nat) (n1:SNest) (times2:List (List SRow)) (mem3:List (List Int)) (mix4:List Int):Option ((List (List Int))×Int):=
 (order_spots fu n1 times2).bind fun ((r5,r6):Int×(List Sspot))=>
 cond (r5 !=0)
  (some (([]:List (List Int)),r5))
  ((nest_Copied fu n1 mem3).bind fun ((r7,r8):Int×(List (List Int)))=>
   cond (r7 !=0)
    (some (([]:List (List Int)),r7))
    ((slices_SortStableFunc fu r6).bind fun (r9:List Sspot)=>
    bif Nat.beq (List.length r9) (List.length r6) then
    (loopF (order_Run_l2 fu n1 mix4) fu (0,r9,r8,((0:Nat):Int),((r9.length:Nat):Int))).bind fun ((m42,m43,m44,m45):(List Sspot)×(List (List Int))×Int×Int)=>
    some (m43,0)
    else none))
def adjointref9_Row_l1 (fu:Nat) (r1:SRow):Int→Option (Int⊕(Ex Unit Int)):=fun v3=>
 cond (decide (v3<(([r1.Const]++r1.Coef).length:Int)))
  ((idx ([r1.Const]++r1.Coef) v3).bind fun x4=>
   (cond (decide (x4>1048576)) (some true) (some (decide (x4<(-1048576))))).bind fun (v5:Bool)=>
   cond v5
    (some (.inr (.ret 4)))
    (some (.inl (IntKind.wrap .i64 (v3+1)))))
  (some (.inr (.brk ())))
def adjointref9_Row (fu:Nat) (r1:SRow) (vars2:Int):Option (Int):=
 cond ((r1.Coef.length:Int) !=vars2)
  (some 6)
  ((chk ([r1.Const].length+r1.Coef.length≤maxLen∧([r1.Const].length+r1.Coef.length)*8≤140737488355328)).bind fun _=>
   bindE (fun r=>r) (loopF (adjointref9_Row_l1 fu r1) fu 0:Option (Ex Unit Int)) fun (_:Unit)=>
   some 0)
def adjointref9_Wrong_l1 (fu:Nat) (p1:SPoints):Int×Int→Option ((Int×Int)⊕(Ex Int Int)):=fun (n2,v3)=>
 cond (decide (v3<(p1.Box.length:Int)))
  ((idx p1.Box v3).bind fun x4=>
   (cond (decide (x4<0)) (some true) (some (decide (x4>4096)))).bind fun (v5:Bool)=>
   cond v5
    (some (.inr (.ret 4)))
    (some (.inl (IntKind.wrap .i64 (n2*x4),IntKind.wrap .i64 (v3+1)))))
  (some (.inr (.brk n2)))
def adjointref9_Wrong_l2 (fu:Nat) (p1:SPoints):Int→Option (Int⊕(Ex Unit Int)):=fun v7=>
 cond (decide (v7<(p1.Rows.length:Int)))
  ((idx p1.Rows v7).bind fun x8=>
   (adjointref9_Row fu x8 (p1.Box.length:Int)).bind fun (r9:Int)=>
   cond (r9 !=0)
    (some (.inr (.ret r9)))
    (some (.inl (IntKind.wrap .i64 (v7+1)))))
  (some (.inr (.brk ())))
def adjointref9_Wrong (fu:Nat) (p1:SPoints):Option (Int):=
 cond (decide ((p1.Box.length:Int)>4))
  (some 3)
  (bindE (fun r=>r) (loopF (adjointref9_Wrong_l1 fu p1) fu (1,0):Option (Ex Int Int)) fun (n6:Int)=>
   cond (decide (n6>4096))
    (some 5)
    (cond (decide ((p1.Rows.length:Int)>8))
     (some 2)
     (bindE (fun r=>r) (loopF (adjointref9_Wrong_l2 fu p1) fu 0:Option (Ex Unit Int)) fun (_:Unit)=>
      some 0)))
def adjointref10_Takes (fu:Nat) (do1:Int):Option (Int):=
 cond (do1==1)
  (some 0)
  ((cond (do1==2)
     (some (do1==2))
     (some (do1==9))).bind fun (v2:Bool)=>
   cond v2
    (some 1)
    ((cond (do1==3)
      (some (do1==3))
      ((cond (do1==4)
         (some (do1==4))
         ((cond (do1==5)
           (some (do1==5))
           ((cond (do1==6)
              (some (do1==6))
              ((cond (do1==7)
                (some (do1==7))
                (some (do1==10))).bind fun (v3:Bool)=>
              some v3)).bind fun (v4:Bool)=>
            some v4)).bind fun (v5:Bool)=>
         some v5)).bind fun (v6:Bool)=>
       some v6)).bind fun (v7:Bool)=>
    cond v7
     (some 2)
     (cond (do1==8)
       (some 3)
       (some (-1)))))
def adjointref10_access (fu:Nat) (n1:SNest) (a2:SAccess) (vars3:Int):Option (Int):=
 (cond (decide (a2.Array<0)) (some true) (some (decide (a2.Array≥(n1.Sizes.length:Int))))).bind fun (v4:Bool)=>
 cond v4
  (some 4)
  ((adjointref9_Row fu a2.At vars3).bind fun (r5:Int)=>
   some r5)
def adjointref10_Wrong_l1 (fu:Nat) (n1:SNest):Int→Option (Int⊕(Ex Unit Int)):=fun v2=>
 cond (decide (v2<(n1.Sizes.length:Int)))
  ((idx n1.Sizes v2).bind fun x3=>
   (cond (decide (x3<0)) (some true) (some (decide (x3>65536)))).bind fun (v4:Bool)=>
   cond v4
    (some (.inr (.ret 4)))
    (some (.inl (IntKind.wrap .i64 (v2+1)))))
  (some (.inr (.brk ())))
def adjointref10_Wrong_l2 (fu:Nat) (n1:SNest) (x6:SStmt):Int→Option (Int⊕(Ex Unit (Int⊕(Ex Unit Int)))):=fun v11=>
 cond (decide (v11<(x6.Get.length:Int)))
  ((idx x6.Get v11).bind fun x12=>
   (adjointref10_access fu n1 x12 (x6.Over.Box.length:Int)).bind fun (r13:Int)=>
   cond (r13 !=0)
    (some (.inr (.ret (.inr (.ret r13)))))
    (some (.inl (IntKind.wrap .i64 (v11+1)))))
  (some (.inr (.brk ())))
def adjointref10_Wrong_l3 (fu:Nat) (n1:SNest):Int→Option (Int⊕(Ex Unit Int)):=fun v5=>
 cond (decide (v5<(n1.Stmts.length:Int)))
  ((idx n1.Stmts v5).bind fun x6=>
   (adjointref9_Wrong fu x6.Over).bind fun (r7:Int)=>
   cond (r7 !=0)
    (some (.inr (.ret r7)))
    ((adjointref10_Takes fu x6.Do).bind fun (r8:Int)=>
    cond (decide (r8<0))
     (some (.inr (.ret 1)))
     ((adjointref10_Takes fu x6.Do).bind fun (r9:Int)=>
      cond (r9 !=(x6.Get.length:Int))
       (some (.inr (.ret 2)))
       ((adjointref10_access fu n1 x6.Put (x6.Over.Box.length:Int)).bind fun (r10:Int)=>
       cond (r10 !=0)
        (some (.inr (.ret r10)))
        (bindE (fun r=>r) (loopF (adjointref10_Wrong_l2 fu n1 x6) fu 0:Option (Ex Unit (Int⊕(Ex Unit Int)))) fun (_:Unit)=>
         some (.inl (IntKind.wrap .i64 (v5+1))))))))
  (some (.inr (.brk ())))
def adjointref10_Wrong (fu:Nat) (n1:SNest):Option (Int):=
 cond (decide ((n1.Stmts.length:Int)>256))
  (some 2)
  (bindE (fun r=>r) (loopF (adjointref10_Wrong_l1 fu n1) fu 0:Option (Ex Unit Int)) fun (_:Unit)=>
   bindE (fun r=>r) (loopF (adjointref10_Wrong_l3 fu n1) fu 0:Option (Ex Unit Int)) fun (_:Unit)=>
   some 0)
def adjointref11_Wrong_l1 (fu:Nat) (n1:SNest) (v4:Int) (x5:List SRow):Int→Option (Int⊕(Ex Unit (Int⊕(Ex Unit Int)))):=fun v6=>
 cond (decide (v6<(x5.length:Int)))
  ((idx x5 v6).bind fun x7=>
   (idx n1.Stmts v4).bind fun x8=>
   (adjointref9_Row fu x7 (x8.Over.Box.length:Int)).bind fun (r9:Int)=>
   cond (r9 !=0)
    (some (.inr (.ret (.inr (.ret r9)))))
    (some (.inl (IntKind.wrap .i64 (v6+1)))))
  (some (.inr (.brk ())))
def adjointref11_Wrong_l2 (fu:Nat) (n1:SNest) (times2:List (List SRow)):Int→Option (Int⊕(Ex Unit Int)):=fun v4=>
 cond (decide (v4<(times2.length:Int)))
  ((idx times2 v4).bind fun x5=>
   cond (decide ((x5.length:Int)>8))
    (some (.inr (.ret 2)))
    (bindE (fun r=>r) (loopF (adjointref11_Wrong_l1 fu n1 v4 x5) fu 0:Option (Ex Unit (Int⊕(Ex Unit Int)))) fun (_:Unit)=>
    some (.inl (IntKind.wrap .i64 (v4+1)))))
  (some (.inr (.brk ())))
def adjointref11_Wrong (fu:Nat) (n1:SNest) (times2:List (List SRow)):Option (Int):=
 (adjointref10_Wrong fu n1).bind fun (r3:Int)=>
 cond (r3 !=0)
  (some r3)
  (cond ((times2.length:Int) !=(n1.Stmts.length:Int))
    (some 2)
    (bindE (fun r=>r) (loopF (adjointref11_Wrong_l2 fu n1 times2) fu 0:Option (Ex Unit Int)) fun (_:Unit)=>
    some 0))
def adjointref9_Box_l2 (self:(List Int)→Option (List (List Int))) (fu:Nat) (box1:List Int) (x11:List Int):Int×(List (List Int))→Option ((Int×(List (List Int)))⊕(List (List Int))):=fun (i12,m13)=>
 (idx box1 (IntKind.wrap .i64 ((box1.length:Int)-1))).bind fun x14=>
 cond (decide (i12<x14))
  ((chk (([]:List Int).length+x11.length≤maxLen∧(([]:List Int).length+x11.length)*8≤140737488355328)).bind fun _=>
   (chk ((([]:List Int)++x11).length+[i12].length≤maxLen∧((([]:List Int)++x11).length+[i12].length)*8≤140737488355328)).bind fun _=>
   (chk (m13.length+[(([]:List Int)++x11)++[i12]].length≤maxLen∧(m13.length+[(([]:List Int)++x11)++[i12]].length)*24≤140737488355328)).bind fun _=>
   some (.inl (IntKind.wrap .i64 (i12+1),m13++[(([]:List Int)++x11)++[i12]])))
  (some (.inr m13))
def adjointref9_Box_l3 (self:(List Int)→Option (List (List Int))) (fu:Nat) (box1:List Int) (r2:List (List Int)):Int×(List (List Int))→Option ((Int×(List (List Int)))⊕(List (List Int))):=fun (v3,m4)=>
 cond (decide (v3<(r2.length:Int)))
  ((idx r2 v3).bind fun x11=>
   (loopF (adjointref9_Box_l2 self fu box1 x11) fu (0,m4)).bind fun (m15:List (List Int))=>
   some (.inl (IntKind.wrap .i64 (v3+1),m15)))
  (some (.inr m4))
def adjointref9_Box_b (self:(List Int)→Option (List (List Int))) (fu:Nat) (box1:List Int):Option (List (List Int)):=
 cond ((box1.length:Int)==0)
  (some [([]:List Int)])
  ((chk ((0:Int)≤(IntKind.wrap .i64 ((box1.length:Int)-1))∧(IntKind.wrap .i64 ((box1.length:Int)-1))≤(box1.length:Int))).bind fun _=>
   (self (lpart box1 0 (IntKind.wrap .i64 ((box1.length:Int)-1)))).bind fun (r2:List (List Int))=>
   (loopF (adjointref9_Box_l3 self fu box1 r2) fu (0,([]:List (List Int)))).bind fun (m16:List (List Int))=>
   some m16)
def adjointref9_Box:Nat→(List Int)→Option (List (List Int))
 | 0=>fun _=>none
 | fu+1=>adjointref9_Box_b (adjointref9_Box fu) (fu+1)
def adjointref9_At_l1 (fu:Nat) (r1:SRow) (x2:List Int):Int×Int→Option ((Int×Int)⊕Int):=fun (n3,v4)=>
 cond (decide (v4<(r1.Coef.length:Int)))
  ((idx r1.Coef v4).bind fun x5=>
   (idx x2 v4).bind fun x6=>
   some (.inl (IntKind.wrap .i64 (n3+(IntKind.wrap .i64 (x5*x6))),IntKind.wrap .i64 (v4+1))))
  (some (.inr n3))
def adjointref9_At (fu:Nat) (r1:SRow) (x2:List Int):Option (Int):=
 (loopF (adjointref9_At_l1 fu r1 x2) fu (r1.Const,0)).bind fun (n7:Int)=>
 some n7
def adjointref9_All_l1 (fu:Nat) (p1:SPoints) (x5:List Int):Bool×Int→Option ((Bool×Int)⊕Bool):=fun (ok6,v7)=>
 cond (decide (v7<(p1.Rows.length:Int)))
  ((idx p1.Rows v7).bind fun x8=>
   (cond ok6 ((adjointref9_At fu x8 x5).bind fun (r9:Int)=>
    some (decide (r9≥0))) (some false)).bind fun (ok10:Bool)=>
   some (.inl (ok10,IntKind.wrap .i64 (v7+1))))
  (some (.inr ok6))
def adjointref9_All_l2 (fu:Nat) (p1:SPoints) (r2:List (List Int)):Int×(List (List Int))→Option ((Int×(List (List Int)))⊕(List (List Int))):=fun (v3,m4)=>
 cond (decide (v3<(r2.length:Int)))
  ((idx r2 v3).bind fun x5=>
   (loopF (adjointref9_All_l1 fu p1 x5) fu (true,0)).bind fun (ok11:Bool)=>
   (cond ok11
     ((chk (m4.length+[x5].length≤maxLen∧(m4.length+[x5].length)*24≤140737488355328)).bind fun _=>
     some (m4++[x5]))
     (some m4)).bind fun (m12:List (List Int))=>
   some (.inl (IntKind.wrap .i64 (v3+1),m12)))
  (some (.inr m4))
def adjointref9_All (fu:Nat) (p1:SPoints):Option (List (List Int)):=
 (adjointref9_Box fu p1.Box).bind fun (r2:List (List Int))=>
 (loopF (adjointref9_All_l2 fu p1 r2) fu (0,([]:List (List Int)))).bind fun (m13:List (List Int))=>
 some m13
def adjointref10_Spots_l1 (fu:Nat) (v2:Int) (r5:List (List Int)):Int×(List SSpot)→Option ((Int×(List SSpot))⊕(List SSpot)):=fun (v6,m7)=>
 cond (decide (v6<(r5.length:Int)))
  ((idx r5 v6).bind fun x8=>
   (chk (m7.length+[(⟨v2,x8⟩:SSpot)].length≤maxLen∧(m7.length+[(⟨v2,x8⟩:SSpot)].length)*32≤140737488355328)).bind fun _=>
   some (.inl (IntKind.wrap .i64 (v6+1),m7++[(⟨v2,x8⟩:SSpot)])))
  (some (.inr m7))
def adjointref10_Spots_l2 (fu:Nat) (n1:SNest):Int×(List SSpot)→Option ((Int×(List SSpot))⊕(List SSpot)):=fun (v2,m3)=>
 cond (decide (v2<(n1.Stmts.length:Int)))
  ((idx n1.Stmts v2).bind fun x4=>
   (adjointref9_All fu x4.Over).bind fun (r5:List (List Int))=>
   (loopF (adjointref10_Spots_l1 fu v2 r5) fu (0,m3)).bind fun (m9:List SSpot)=>
   some (.inl (IntKind.wrap .i64 (v2+1),m9)))
  (some (.inr m3))
def adjointref10_Spots (fu:Nat) (n1:SNest):Option (List SSpot):=
 (loopF (adjointref10_Spots_l2 fu n1) fu (0,([]:List SSpot))).bind fun (m10:List SSpot)=>
 some m10
def adjointref11_Right (fu:Nat) (n1:SNest) (times2:List (List SRow)):Option (Int):=
 (adjointref11_Wrong fu n1 times2).bind fun (r3:Int)=>
 cond (r3 !=0)
  (some r3)
  ((adjointref10_Spots fu n1).bind fun (r4:List SSpot)=>
   cond (decide ((r4.length:Int)>1024))
    (some 5)
    (some 0))
def adjointref10_Fits_l1 (fu:Nat) (n1:SNest) (mem2:List (List Int)):Int→Option (Int⊕(Ex Unit Int)):=fun v3=>
 cond (decide (v3<(mem2.length:Int)))
  ((idx mem2 v3).bind fun x4=>
   (idx n1.Sizes v3).bind fun x5=>
   cond ((x4.length:Int) !=x5)
    (some (.inr (.ret 6)))
    (some (.inl (IntKind.wrap .i64 (v3+1)))))
  (some (.inr (.brk ())))
def adjointref10_Fits (fu:Nat) (n1:SNest) (mem2:List (List Int)):Option (Int):=
 cond ((mem2.length:Int) !=(n1.Sizes.length:Int))
  (some 2)
  (bindE (fun r=>r) (loopF (adjointref10_Fits_l1 fu n1 mem2) fu 0:Option (Ex Unit Int)) fun (_:Unit)=>
   some 0)
def adjointref10_Copy_l1 (fu:Nat) (mem1:List (List Int)):Int×(List (List Int))→Option ((Int×(List (List Int)))⊕(List (List Int))):=fun (v2,m3)=>
 cond (decide (v2<(mem1.length:Int)))
  ((idx mem1 v2).bind fun x4=>
   (chk (([]:List Int).length+x4.length≤maxLen∧(([]:List Int).length+x4.length)*8≤140737488355328)).bind fun _=>
   (chk (0<[([]:List Int)++x4].length∧m3.length+[([]:List Int)++x4].length≤maxLen∧(m3.length+[([]:List Int)++x4].length)*24≤140737488355328)).bind fun _=>
   some (.inl (IntKind.wrap .i64 (v2+1),m3++[([]:List Int)++x4])))
  (some (.inr m3))
def adjointref10_Copy (fu:Nat) (mem1:List (List Int)):Option (List (List Int)):=
 (loopF (adjointref10_Copy_l1 fu mem1) fu (0,([]:List (List Int)))).bind fun (m5:List (List Int))=>
 some m5
def adjointref11_Time_l1 (fu:Nat) (s2:SSpot) (x3:List SRow):Int×Int×Int×Int×Int×Int×Int×Int×Int→Option ((Int×Int×Int×Int×Int×Int×Int×Int×Int)⊕(Int×Int×Int×Int×Int×Int×Int×Int)):=fun (v4,m5,m6,m7,m8,m9,m10,m11,m12)=>
 cond (decide (v4<(x3.length:Int)))
  ((idx x3 v4).bind fun x13=>
   (adjointref9_At fu x13 s2.At).bind fun (r14:Int)=>
   (chk ((0:Int)≤v4∧v4<((8:Nat):Int))).bind fun _=>
   (chk (v4.toNat<[m5,m6,m7,m8,m9,m10,m11,m12].length)).bind fun _=>
   some (.inl (IntKind.wrap .i64 (v4+1),([m5,m6,m7,m8,m9,m10,m11,m12].set v4.toNat r14).getD 0 0,([m5,m6,m7,m8,m9,m10,m11,m12].set v4.toNat r14).getD 1 0,([m5,m6,m7,m8,m9,m10,m11,m12].set v4.toNat r14).getD 2 0,([m5,m6,m7,m8,m9,m10,m11,m12].set v4.toNat r14).getD 3 0,([m5,m6,m7,m8,m9,m10,m11,m12].set v4.toNat r14).getD 4 0,([m5,m6,m7,m8,m9,m10,m11,m12].set v4.toNat r14).getD 5 0,([m5,m6,m7,m8,m9,m10,m11,m12].set v4.toNat r14).getD 6 0,([m5,m6,m7,m8,m9,m10,m11,m12].set v4.toNat r14).getD 7 0)))
  (some (.inr (m5,m6,m7,m8,m9,m10,m11,m12)))
def adjointref11_Time (fu:Nat) (times1:List (List SRow)) (s2:SSpot):Option (SArr8):=
 (idx times1 s2.Stmt).bind fun x3=>
 (loopF (adjointref11_Time_l1 fu s2 x3) fu (0,0,0,0,0,0,0,0,0)).bind fun ((m15,m16,m17,m18,m19,m20,m21,m22):Int×Int×Int×Int×Int×Int×Int×Int)=>
 some (⟨m15,m16,m17,m18,m19,m20,m21,m22⟩:SArr8)
def adjointref11_Before_l1 (fu:Nat) (a1:SArr8) (b2:SArr8):Int→Option (Int⊕(Ex Unit Bool)):=fun v3=>
 cond (decide (v3<8))
  ((chk ((0:Int)≤v3∧v3<((8:Nat):Int))).bind fun _=>
   (chk (v3.toNat<[a1.a0,a1.a1,a1.a2,a1.a3,a1.a4,a1.a5,a1.a6,a1.a7].length)).bind fun _=>
   (chk ((0:Int)≤v3∧v3<((8:Nat):Int))).bind fun _=>
   (chk (v3.toNat<[b2.a0,b2.a1,b2.a2,b2.a3,b2.a4,b2.a5,b2.a6,b2.a7].length)).bind fun _=>
   cond (([a1.a0,a1.a1,a1.a2,a1.a3,a1.a4,a1.a5,a1.a6,a1.a7].getD v3.toNat 0) !=([b2.a0,b2.a1,b2.a2,b2.a3,b2.a4,b2.a5,b2.a6,b2.a7].getD v3.toNat 0))
    ((chk ((0:Int)≤v3∧v3<((8:Nat):Int))).bind fun _=>
    (chk (v3.toNat<[a1.a0,a1.a1,a1.a2,a1.a3,a1.a4,a1.a5,a1.a6,a1.a7].length)).bind fun _=>
    (chk ((0:Int)≤v3∧v3<((8:Nat):Int))).bind fun _=>
    (chk (v3.toNat<[b2.a0,b2.a1,b2.a2,b2.a3,b2.a4,b2.a5,b2.a6,b2.a7].length)).bind fun _=>
    some (.inr (.ret (decide (([a1.a0,a1.a1,a1.a2,a1.a3,a1.a4,a1.a5,a1.a6,a1.a7].getD v3.toNat 0)<([b2.a0,b2.a1,b2.a2,b2.a3,b2.a4,b2.a5,b2.a6,b2.a7].getD v3.toNat 0))))))
    (some (.inl (IntKind.wrap .i64 (v3+1)))))
  (some (.inr (.brk ())))
def adjointref11_Before (fu:Nat) (a1:SArr8) (b2:SArr8):Option (Bool):=
 bindE (fun r=>r) (loopF (adjointref11_Before_l1 fu a1 b2) fu 0:Option (Ex Unit Bool)) fun (_:Unit)=>
 some false
def adjointref10_Where (fu:Nat) (n1:SNest) (a2:SAccess) (x3:List Int):Option (Int):=
 (adjointref9_At fu a2.At x3).bind fun (r4:Int)=>
 (cond (decide (r4<0)) (some true) ((idx n1.Sizes a2.Array).bind fun x5=>
  some (decide (r4≥x5)))).bind fun (v6:Bool)=>
 cond v6
  (some (-1))
  (some r4)
def adjointref10_Number (fu:Nat) (s1:SStmt) (v2:List Int) (was3:Int):Option (Int):=
 cond (s1.Do==1)
  (some s1.Value)
  (cond (s1.Do==2)
    ((idx v2 0).bind fun x4=>
    some x4)
    (cond (s1.Do==3)
     ((idx v2 0).bind fun x5=>
      (idx v2 1).bind fun x6=>
      some (IntKind.wrap .i64 (x5+x6)))
     (cond (s1.Do==4)
       ((idx v2 0).bind fun x7=>
       (idx v2 1).bind fun x8=>
       some (IntKind.wrap .i64 (x7-x8)))
       (cond (s1.Do==5)
        ((idx v2 0).bind fun x9=>
         (idx v2 1).bind fun x10=>
         some (IntKind.wrap .i64 (x9*x10)))
        (cond (s1.Do==6)
          ((idx v2 0).bind fun x11=>
          (idx v2 1).bind fun x12=>
          cond (decide (x11>x12))
           ((idx v2 0).bind fun x13=>
            some x13)
           ((idx v2 1).bind fun x14=>
            some x14))
          (cond (s1.Do==7)
           ((idx v2 0).bind fun x15=>
            (idx v2 1).bind fun x16=>
            cond (decide (x15<x16))
             (some 1)
             (some 0))
           (cond (s1.Do==8)
             ((idx v2 0).bind fun x17=>
             cond (x17 !=0)
              ((idx v2 1).bind fun x18=>
               some x18)
              ((idx v2 2).bind fun x19=>
               some x19))
             (cond (s1.Do==9)
              ((idx v2 0).bind fun x20=>
               some (IntKind.wrap .i64 (was3+x20)))
              ((idx v2 0).bind fun x21=>
               (idx v2 1).bind fun x22=>
               some (IntKind.wrap .i64 (was3+(IntKind.wrap .i64 (x21*x22)))))))))))))
def adjointref10_Do_l1 (fu:Nat) (n1:SNest) (s2:SStmt) (x3:List Int) (m4:List (List Int)):Int×(List Int)→Option ((Int×(List Int))⊕(List Int)):=fun (v6,m7)=>
 cond (decide (v6<(s2.Get.length:Int)))
  ((idx s2.Get v6).bind fun x8=>
   (adjointref10_Where fu n1 x8 x3).bind fun (r9:Int)=>
   (cond (decide (r9<0))
     ((chk (m7.length+[0].length≤maxLen∧(m7.length+[0].length)*8≤140737488355328)).bind fun _=>
     some (m7++[0]))
     ((chk ((0:Int)≤x8.Array∧x8.Array<(m4.length:Int))).bind fun _=>
     (m4[x8.Array.toNat]?).bind fun x10=>
     (chk ((0:Int)≤r9∧r9<((List.length x10:Nat):Int))).bind fun _=>
     (m4[x8.Array.toNat]?).bind fun x11=>
     (x11[r9.toNat]?).bind fun x12=>
     (chk (m7.length+[x12].length≤maxLen∧(m7.length+[x12].length)*8≤140737488355328)).bind fun _=>
     some (m7++[x12]))).bind fun (m13:List Int)=>
   some (.inl (IntKind.wrap .i64 (v6+1),m13)))
  (some (.inr m7))
def adjointref10_Do (fu:Nat) (n1:SNest) (s2:SStmt) (x3:List Int) (m4:List (List Int)):Option (List (List Int)):=
 (adjointref10_Where fu n1 s2.Put x3).bind fun (r5:Int)=>
 cond (decide (r5<0))
  (some m4)
  ((loopF (adjointref10_Do_l1 fu n1 s2 x3 m4) fu (0,([]:List Int))).bind fun (m14:List Int)=>
   ((chk ((0:Int)≤s2.Put.Array∧s2.Put.Array<(m4.length:Int))).bind fun _=>
    (chk ((0:Int)≤s2.Put.Array∧s2.Put.Array<(m4.length:Int))).bind fun _=>
    amb ((m4[s2.Put.Array.toNat]?).bind fun x15=>
    (m4[s2.Put.Array.toNat]?).bind fun x16=>
    (chk ((0:Int)≤r5∧r5<((List.length x16:Nat):Int))).bind fun _=>
    (m4[s2.Put.Array.toNat]?).bind fun x17=>
    (x17[r5.toNat]?).bind fun x18=>
    (adjointref10_Number fu (⟨(⟨s2.Over.Box,s2.Over.Rows⟩:SPoints),s2.Do,s2.Value,(⟨s2.Put.Array,(⟨s2.Put.At.Coef,s2.Put.At.Const⟩:SRow)⟩:SAccess),s2.Get⟩:SStmt) m14 x18).bind fun (r19:Int)=>
    (chk ((0:Int)≤r5∧r5<((List.length x15:Nat):Int))).bind fun _=>
    (m4[s2.Put.Array.toNat]?).bind fun x20=>
    (chk (r5.toNat<x20.length)).bind fun _=>
    some (m4.set s2.Put.Array.toNat (x20.set r5.toNat r19))) ((m4[s2.Put.Array.toNat]?).bind fun x15=>
    (chk ((0:Int)≤r5∧r5<((List.length x15:Nat):Int))).bind fun _=>
    amb ((m4[s2.Put.Array.toNat]?).bind fun x16=>
    (m4[s2.Put.Array.toNat]?).bind fun x17=>
    (x17[r5.toNat]?).bind fun x18=>
    (adjointref10_Number fu (⟨(⟨s2.Over.Box,s2.Over.Rows⟩:SPoints),s2.Do,s2.Value,(⟨s2.Put.Array,(⟨s2.Put.At.Coef,s2.Put.At.Const⟩:SRow)⟩:SAccess),s2.Get⟩:SStmt) m14 x18).bind fun (r19:Int)=>
    (chk ((0:Int)≤r5∧r5<((List.length x16:Nat):Int))).bind fun _=>
    (m4[s2.Put.Array.toNat]?).bind fun x20=>
    (chk (r5.toNat<x20.length)).bind fun _=>
    some (m4.set s2.Put.Array.toNat (x20.set r5.toNat r19))) ((m4[s2.Put.Array.toNat]?).bind fun x16=>
    (x16[r5.toNat]?).bind fun x17=>
    amb ((m4[s2.Put.Array.toNat]?).bind fun x18=>
    (adjointref10_Number fu (⟨(⟨s2.Over.Box,s2.Over.Rows⟩:SPoints),s2.Do,s2.Value,(⟨s2.Put.Array,(⟨s2.Put.At.Coef,s2.Put.At.Const⟩:SRow)⟩:SAccess),s2.Get⟩:SStmt) m14 x17).bind fun (r19:Int)=>
    (chk ((0:Int)≤r5∧r5<((List.length x18:Nat):Int))).bind fun _=>
    (m4[s2.Put.Array.toNat]?).bind fun x20=>
    (chk (r5.toNat<x20.length)).bind fun _=>
    some (m4.set s2.Put.Array.toNat (x20.set r5.toNat r19))) ((adjointref10_Number fu (⟨(⟨s2.Over.Box,s2.Over.Rows⟩:SPoints),s2.Do,s2.Value,(⟨s2.Put.Array,(⟨s2.Put.At.Coef,s2.Put.At.Const⟩:SRow)⟩:SAccess),s2.Get⟩:SStmt) m14 x17).bind fun (r18:Int)=>
    (m4[s2.Put.Array.toNat]?).bind fun x19=>
    (chk ((0:Int)≤r5∧r5<((List.length x19:Nat):Int))).bind fun _=>
    (m4[s2.Put.Array.toNat]?).bind fun x20=>
    (chk (r5.toNat<x20.length)).bind fun _=>
    some (m4.set s2.Put.Array.toNat (x20.set r5.toNat r18)))))).bind fun (m21:List (List Int))=>
   some m21)
def adjointref11_Run_l1 (fu:Nat) (times2:List (List SRow)) (left10:List SSpot):Int×(List Int)→Option ((Int×(List Int))⊕(List Int)):=fun (v12,m13)=>
 cond (decide (v12<(left10.length:Int)))
  ((idx left10 v12).bind fun x14=>
   (cond ((m13.length:Int)==0) (some true) ((idx m13 0).bind fun x15=>
    (idx left10 x15).bind fun x16=>
    (adjointref11_Time fu times2 x14).bind fun (r17:SArr8)=>
    (adjointref11_Time fu times2 x16).bind fun (r18:SArr8)=>
    (adjointref11_Before fu r17 r18).bind fun (r19:Bool)=>
    some r19)).bind fun (v20:Bool)=>
   (cond v20
     (some [v12])
     ((idx m13 0).bind fun x21=>
     (idx left10 x21).bind fun x22=>
     (adjointref11_Time fu times2 x14).bind fun (r23:SArr8)=>
     (adjointref11_Time fu times2 x22).bind fun (r24:SArr8)=>
     (cond (eqI [r23.a0,r23.a1,r23.a2,r23.a3,r23.a4,r23.a5,r23.a6,r23.a7] [r24.a0,r24.a1,r24.a2,r24.a3,r24.a4,r24.a5,r24.a6,r24.a7])
       ((chk (m13.length+[v12].length≤maxLen∧(m13.length+[v12].length)*8≤140737488355328)).bind fun _=>
        some (m13++[v12]))
       (some m13)).bind fun (m25:List Int)=>
     some m25)).bind fun (m26:List Int)=>
   some (.inl (IntKind.wrap .i64 (v12+1),m26)))
  (some (.inr m13))
def adjointref11_Run_l2 (fu:Nat) (n1:SNest) (times2:List (List SRow)) (mix4:List Int):Int×(List SSpot)×(List (List Int))→Option ((Int×(List SSpot)×(List (List Int)))⊕(List (List Int))):=fun (turn9,left10,m11)=>
 cond (decide ((left10.length:Int)>0))
  ((loopF (adjointref11_Run_l1 fu times2 left10) fu (0,([]:List Int))).bind fun (m27:List Int)=>
   (idx m27 0).bind fun x28=>
   (cond (decide ((mix4.length:Int)>0))
     ((chk ((mix4.length:Int)≠0)).bind fun _=>
     (idx mix4 (Int.tmod turn9 (mix4.length:Int))).bind fun x29=>
     (chk ((m27.length:Int)≠0)).bind fun _=>
     (cond (decide ((Int.tmod x29 (m27.length:Int))<0))
       (some (IntKind.wrap .i64 ((Int.tmod x29 (m27.length:Int))+(m27.length:Int))))
       (some (Int.tmod x29 (m27.length:Int)))).bind fun (k30:Int)=>
     (idx m27 k30).bind fun x31=>
     some (x31,IntKind.wrap .i64 (turn9+1)))
     (some (x28,turn9))).bind fun ((i32,turn33):Int×Int)=>
   (idx left10 i32).bind fun x34=>
   (idx n1.Stmts x34.Stmt).bind fun x35=>
   (idx left10 i32).bind fun x36=>
   (adjointref10_Do fu n1 x35 x36.At m11).bind fun (r37:List (List Int))=>
   bif Nat.beq (List.length r37) (List.length m11) then
   (chk ((0:Int)≤i32∧i32≤(left10.length:Int))).bind fun _=>
   (chk ((0:Int)≤(IntKind.wrap .i64 (i32+1))∧(IntKind.wrap .i64 (i32+1))≤(left10.length:Int))).bind fun _=>
   (chk (([]:List SSpot).length+(lpart left10 0 i32).length≤maxLen∧(([]:List SSpot).length+(lpart left10 0 i32).length)*32≤140737488355328)).bind fun _=>
   (chk ((([]:List SSpot)++(lpart left10 0 i32)).length+(lpart left10 (IntKind.wrap .i64 (i32+1)) (left10.length:Int)).length≤maxLen∧((([]:List SSpot)++(lpart left10 0 i32)).length+(lpart left10 (IntKind.wrap .i64 (i32+1)) (left10.length:Int)).length)*32≤140737488355328)).bind fun _=>
   some (.inl (turn33,(([]:List SSpot)++(lpart left10 0 i32))++(lpart left10 (IntKind.wrap .i64 (i32+1)) (left10.length:Int)),r37))
   else none)
  (some (.inr m11))
def adjointref11_Run (fu:Nat) (n1:SNest) (times2:List (List SRow)) (mem3:List (List Int)) (mix4:List Int):Option ((List (List Int))×Int):=
 (adjointref11_Right fu n1 times2).bind fun (r5:Int)=>
 cond (r5 !=0)
  (some (([]:List (List Int)),r5))
  ((adjointref10_Fits fu n1 mem3).bind fun (r6:Int)=>
   cond (r6 !=0)
    (some (([]:List (List Int)),r6))
    ((adjointref10_Copy fu mem3).bind fun (r7:List (List Int))=>
    (adjointref10_Spots fu n1).bind fun (r8:List SSpot)=>
    (loopF (adjointref11_Run_l2 fu n1 times2 mix4) fu (0,r8,r7)).bind fun (m38:List (List Int))=>
    some (m38,0)))
def adjointref10_SameMemory_l1 (fu:Nat) (a1:List (List Int)) (b2:List (List Int)) (v3:Int) (x6:List Int):Int→Option (Int⊕(Ex Unit (Int⊕(Ex Unit Bool)))):=fun v7=>
 cond (decide (v7<(x6.length:Int)))
  ((idx a1 v3).bind fun x8=>
   (idx x8 v7).bind fun x9=>
   (idx b2 v3).bind fun x10=>
   (idx x10 v7).bind fun x11=>
   cond (x9 !=x11)
    (some (.inr (.ret (.inr (.ret false)))))
    (some (.inl (IntKind.wrap .i64 (v7+1)))))
  (some (.inr (.brk ())))
def adjointref10_SameMemory_l2 (fu:Nat) (a1:List (List Int)) (b2:List (List Int)):Int→Option (Int⊕(Ex Unit Bool)):=fun v3=>
 cond (decide (v3<(a1.length:Int)))
  ((idx a1 v3).bind fun x4=>
   (idx b2 v3).bind fun x5=>
   cond ((x4.length:Int) !=(x5.length:Int))
    (some (.inr (.ret false)))
    ((idx a1 v3).bind fun x6=>
    bindE (fun r=>r) (loopF (adjointref10_SameMemory_l1 fu a1 b2 v3 x6) fu 0:Option (Ex Unit (Int⊕(Ex Unit Bool)))) fun (_:Unit)=>
    some (.inl (IntKind.wrap .i64 (v3+1)))))
  (some (.inr (.brk ())))
def adjointref10_SameMemory (fu:Nat) (a1:List (List Int)) (b2:List (List Int)):Option (Bool):=
 cond ((a1.length:Int) !=(b2.length:Int))
  (some false)
  (bindE (fun r=>r) (loopF (adjointref10_SameMemory_l2 fu a1 b2) fu 0:Option (Ex Unit Bool)) fun (_:Unit)=>
   some true)
def adjointlaw11_OrderRuns (fu:Nat) (n1:SNest) (times2:List (List SRow)) (mem3:List (List Int)) (mix4:List Int):Option (Bool):=
 (order_Run fu n1 times2 mem3 mix4).bind fun ((r5,r6):(List (List Int))×Int)=>
 (adjointref11_Run fu n1 times2 mem3 mix4).bind fun ((r7,r8):(List (List Int))×Int)=>
 ((adjointref10_SameMemory fu r5 r7).bind fun (r9:Bool)=>
  cond r9 (some (r6==r8)) (some false)).bind fun (v10:Bool)=>
 some v10
end F
end
end Go.DN
