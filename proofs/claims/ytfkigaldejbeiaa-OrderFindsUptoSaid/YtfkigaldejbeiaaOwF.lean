/-
  The functions, as Lean functions over data.
-/
import Derived.Test.YtfkigaldejbeiaaOwS
set_option maxRecDepth 20000
set_option linter.unusedVariables false
set_option linter.unusedSectionVars false
set_option linter.unusedSimpArgs false
namespace Go.DN
open Go.AM
noncomputable section
namespace F
def nest_Wrong_1 (fu:Nat) (s1:Int):Option (Bool):=
 (cond (decide (s1<0)) (some true) (some (decide (s1>65536)))).bind fun (v2:Bool)=>
 some v2
def slices_IndexFunc_l1 (fu:Nat) (s1:List Int):Int→Option (Int⊕(Ex Unit Int)):=fun v2=>
 cond (decide (v2<(s1.length:Int)))
  ((idx s1 v2).bind fun x3=>
   (nest_Wrong_1 fu x3).bind fun (r4:Bool)=>
   cond r4
    (some (.inr (.ret v2)))
    (some (.inl (IntKind.wrap .i64 (v2+1)))))
  (some (.inr (.brk ())))
def slices_IndexFunc (fu:Nat) (s1:List Int):Option (Int):=
 bindE (fun r=>r) (loopF (slices_IndexFunc_l1 fu s1) fu 0:Option (Ex Unit Int)) fun (_:Unit)=>
 some (-1)
def slices_ContainsFunc (fu:Nat) (s1:List Int):Option (Bool):=
 (slices_IndexFunc fu s1).bind fun (r2:Int)=>
 some (decide (r2≥0))
def points_Row_1 (fu:Nat) (n1:Int):Option (Bool):=
 (cond (decide (n1<(-1048576))) (some true) (some (decide (n1>1048576)))).bind fun (v2:Bool)=>
 some v2
def slices_IndexFunc_2_l1 (fu:Nat) (s1:List Int):Int→Option (Int⊕(Ex Unit Int)):=fun v2=>
 cond (decide (v2<(s1.length:Int)))
  ((idx s1 v2).bind fun x3=>
   (points_Row_1 fu x3).bind fun (r4:Bool)=>
   cond r4
    (some (.inr (.ret v2)))
    (some (.inl (IntKind.wrap .i64 (v2+1)))))
  (some (.inr (.brk ())))
def slices_IndexFunc_2 (fu:Nat) (s1:List Int):Option (Int):=
 bindE (fun r=>r) (loopF (slices_IndexFunc_2_l1 fu s1) fu 0:Option (Ex Unit Int)) fun (_:Unit)=>
 some (-1)
def slices_ContainsFunc_2 (fu:Nat) (s1:List Int):Option (Bool):=
 (slices_IndexFunc_2 fu s1).bind fun (r2:Int)=>
 some (decide (r2≥0))
def points_Row (fu:Nat) (r1:SRow) (vars2:Int):Option (Int):=
 cond ((r1.Coef.length:Int) !=vars2)
  (some 6)
  (((points_Row_1 fu r1.Const).bind fun (r3:Bool)=>
    cond r3 (some true) ((slices_ContainsFunc_2 fu r1.Coef).bind fun (r4:Bool)=>
    some r4)).bind fun (v5:Bool)=>
   cond v5
    (some 4)
    (some 0))
def points_Wrong_l1 (fu:Nat) (p1:SPoints):Int→Option (Int⊕(Ex Unit Int)):=fun v2=>
 cond (decide (v2<(p1.Box.length:Int)))
  ((idx p1.Box v2).bind fun x3=>
   (cond (decide (x3<0)) (some true) (some (decide (x3>4096)))).bind fun (v4:Bool)=>
   cond v4
    (some (.inr (.ret 4)))
    (some (.inl (IntKind.wrap .i64 (v2+1)))))
  (some (.inr (.brk ())))
def points_Wrong_l2 (fu:Nat) (p1:SPoints):Int×Int→Option ((Int×Int)⊕Int):=fun (n5,v6)=>
 cond (decide (v6<(p1.Box.length:Int)))
  ((idx p1.Box v6).bind fun x7=>
   some (.inl (IntKind.wrap .i64 (n5*x7),IntKind.wrap .i64 (v6+1))))
  (some (.inr n5))
def points_Wrong_l3 (fu:Nat) (p1:SPoints):Int→Option (Int⊕(Ex Unit Int)):=fun v9=>
 cond (decide (v9<(p1.Rows.length:Int)))
  ((idx p1.Rows v9).bind fun x10=>
   (points_Row fu x10 (p1.Box.length:Int)).bind fun (r11:Int)=>
   cond (r11 !=0)
    (some (.inr (.ret r11)))
    (some (.inl (IntKind.wrap .i64 (v9+1)))))
  (some (.inr (.brk ())))
def points_Wrong (fu:Nat) (p1:SPoints):Option (Int):=
 cond (decide ((p1.Box.length:Int)>4))
  (some 3)
  (bindE (fun r=>r) (loopF (points_Wrong_l1 fu p1) fu 0:Option (Ex Unit Int)) fun (_:Unit)=>
   (loopF (points_Wrong_l2 fu p1) fu (1,0)).bind fun (n8:Int)=>
   cond (decide (n8>4096))
    (some 5)
    (cond (decide ((p1.Rows.length:Int)>8))
     (some 2)
     (bindE (fun r=>r) (loopF (points_Wrong_l3 fu p1) fu 0:Option (Ex Unit Int)) fun (_:Unit)=>
      some 0)))
def nest_gets (fu:Nat) (do1:Int):Option (Int):=
 cond (do1==1)
  (some 0)
  ((cond (do1==2)
     (some (do1==2))
     (some (do1==9))).bind fun (v2:Bool)=>
   cond v2
    (some 1)
    ((cond (do1==3)
      (some (do1==3))
      ((cond (do1==4)
         (some (do1==4))
         ((cond (do1==5)
           (some (do1==5))
           ((cond (do1==6)
              (some (do1==6))
              ((cond (do1==7)
                (some (do1==7))
                (some (do1==10))).bind fun (v3:Bool)=>
              some v3)).bind fun (v4:Bool)=>
            some v4)).bind fun (v5:Bool)=>
         some v5)).bind fun (v6:Bool)=>
       some v6)).bind fun (v7:Bool)=>
    cond v7
     (some 2)
     (cond (do1==8)
       (some 3)
       (some (-1)))))
def nest_statement_l1 (fu:Nat) (n1:SNest) (s2:SStmt):Int→Option (Int⊕(Ex Unit Int)):=fun v5=>
 cond (decide (v5<(([s2.Put]++s2.Get).length:Int)))
  ((idx ([s2.Put]++s2.Get) v5).bind fun x6=>
   (cond (decide (x6.Array<0)) (some true) (some (decide (x6.Array≥(n1.Sizes.length:Int))))).bind fun (v7:Bool)=>
   cond v7
    (some (.inr (.ret 4)))
    ((points_Row fu x6.At (s2.Over.Box.length:Int)).bind fun (r8:Int)=>
    cond (r8 !=0)
     (some (.inr (.ret r8)))
     (some (.inl (IntKind.wrap .i64 (v5+1))))))
  (some (.inr (.brk ())))
def nest_statement (fu:Nat) (n1:SNest) (s2:SStmt):Option (Int):=
 (points_Wrong fu s2.Over).bind fun (r3:Int)=>
 cond (r3 !=0)
  (some r3)
  ((nest_gets fu s2.Do).bind fun (r4:Int)=>
   cond (decide (r4<0))
    (some 1)
    (cond (r4 !=(s2.Get.length:Int))
     (some 2)
     ((chk ([s2.Put].length+s2.Get.length≤maxLen∧([s2.Put].length+s2.Get.length)*40≤140737488355328)).bind fun _=>
      bindE (fun r=>r) (loopF (nest_statement_l1 fu n1 s2) fu 0:Option (Ex Unit Int)) fun (_:Unit)=>
      some 0)))
def nest_Wrong_l1 (fu:Nat) (n1:SNest):Int→Option (Int⊕(Ex Unit Int)):=fun v3=>
 cond (decide (v3<(n1.Stmts.length:Int)))
  ((idx n1.Stmts v3).bind fun x4=>
   (nest_statement fu n1 (⟨(⟨x4.Over.Box,x4.Over.Rows⟩:SPoints),x4.Do,x4.Value,(⟨x4.Put.Array,(⟨x4.Put.At.Coef,x4.Put.At.Const⟩:SRow)⟩:SAccess),x4.Get⟩:SStmt)).bind fun (r5:Int)=>
   cond (r5 !=0)
    (some (.inr (.ret r5)))
    (some (.inl (IntKind.wrap .i64 (v3+1)))))
  (some (.inr (.brk ())))
def nest_Wrong (fu:Nat) (n1:SNest):Option (Int):=
 cond (decide ((n1.Stmts.length:Int)>256))
  (some 2)
  ((slices_ContainsFunc fu n1.Sizes).bind fun (r2:Bool)=>
   cond r2
    (some 4)
    (bindE (fun r=>r) (loopF (nest_Wrong_l1 fu n1) fu 0:Option (Ex Unit Int)) fun (_:Unit)=>
    some 0))
def order_Wrong_l1 (fu:Nat) (n1:SNest) (v4:Int) (x5:List SRow):Int→Option (Int⊕(Ex Unit (Int⊕(Ex Unit Int)))):=fun v6=>
 cond (decide (v6<(x5.length:Int)))
  ((idx x5 v6).bind fun x7=>
   (idx n1.Stmts v4).bind fun x8=>
   (points_Row fu x7 (x8.Over.Box.length:Int)).bind fun (r9:Int)=>
   cond (r9 !=0)
    (some (.inr (.ret (.inr (.ret r9)))))
    (some (.inl (IntKind.wrap .i64 (v6+1)))))
  (some (.inr (.brk ())))
def order_Wrong_l2 (fu:Nat) (n1:SNest) (times2:List (List SRow)):Int→Option (Int⊕(Ex Unit Int)):=fun v4=>
 cond (decide (v4<(times2.length:Int)))
  ((idx times2 v4).bind fun x5=>
   cond (decide ((x5.length:Int)>8))
    (some (.inr (.ret 2)))
    (bindE (fun r=>r) (loopF (order_Wrong_l1 fu n1 v4 x5) fu 0:Option (Ex Unit (Int⊕(Ex Unit Int)))) fun (_:Unit)=>
    some (.inl (IntKind.wrap .i64 (v4+1)))))
  (some (.inr (.brk ())))
def order_Wrong (fu:Nat) (n1:SNest) (times2:List (List SRow)):Option (Int):=
 (nest_Wrong fu n1).bind fun (r3:Int)=>
 cond (r3 !=0)
  (some r3)
  (cond ((times2.length:Int) !=(n1.Stmts.length:Int))
    (some 2)
    (bindE (fun r=>r) (loopF (order_Wrong_l2 fu n1 times2) fu 0:Option (Ex Unit Int)) fun (_:Unit)=>
    some 0))
def points_All (fu:Nat) (p1:SPoints):Option ((List Int)×(List SRow)):=
 some (p1.Box,p1.Rows)
def points_hopeless_l1 (fu:Nat) (p1:SPoints) (x2:List Int) (k3:Int) (x5:SRow):Int×Int→Option ((Int×Int)⊕Int):=fun (n6,v7)=>
 cond (decide (v7<(x5.Coef.length:Int)))
  ((idx x5.Coef v7).bind fun x8=>
   (cond (decide (v7<k3))
     ((idx x2 v7).bind fun x9=>
     some (IntKind.wrap .i64 (n6+(IntKind.wrap .i64 (x8*x9)))))
     ((cond (decide (x8>0))
       ((idx p1.Box v7).bind fun x10=>
        some (IntKind.wrap .i64 (n6+(IntKind.wrap .i64 (x8*(IntKind.wrap .i64 (x10-1)))))))
       (some n6)).bind fun (n11:Int)=>
     some n11)).bind fun (n12:Int)=>
   some (.inl (n12,IntKind.wrap .i64 (v7+1))))
  (some (.inr n6))
def points_hopeless_l2 (fu:Nat) (p1:SPoints) (x2:List Int) (k3:Int):Int→Option (Int⊕(Ex Unit Bool)):=fun v4=>
 cond (decide (v4<(p1.Rows.length:Int)))
  ((idx p1.Rows v4).bind fun x5=>
   (loopF (points_hopeless_l1 fu p1 x2 k3 x5) fu (x5.Const,0)).bind fun (n13:Int)=>
   cond (decide (n13<0))
    (some (.inr (.ret true)))
    (some (.inl (IntKind.wrap .i64 (v4+1)))))
  (some (.inr (.brk ())))
def points_hopeless (fu:Nat) (p1:SPoints) (x2:List Int) (k3:Int):Option (Bool):=
 bindE (fun r=>r) (loopF (points_hopeless_l2 fu p1 x2 k3) fu 0:Option (Ex Unit Bool)) fun (_:Unit)=>
 some false
def slices_Clone (fu:Nat) (s1:List Int):Option (List Int):=
 nilF (s1.length:Int) (some ([]:List Int)) ((chk (([]:List Int).length+s1.length≤maxLen∧(([]:List Int).length+s1.length)*8≤140737488355328)).bind fun _=>
 some (([]:List Int)++s1))
def points_At_l1 (fu:Nat) (r1:SRow) (x2:List Int):Int×Int→Option ((Int×Int)⊕Int):=fun (n3,v4)=>
 cond (decide (v4<(r1.Coef.length:Int)))
  ((idx r1.Coef v4).bind fun x5=>
   (idx x2 v4).bind fun x6=>
   some (.inl (IntKind.wrap .i64 (n3+(IntKind.wrap .i64 (x5*x6))),IntKind.wrap .i64 (v4+1))))
  (some (.inr n3))
def points_At (fu:Nat) (r1:SRow) (x2:List Int):Option (Int):=
 (loopF (points_At_l1 fu r1 x2) fu (r1.Const,0)).bind fun (n7:Int)=>
 some n7
def order_spots_y_3_l1 (fu:Nat) (v1:List Int) (x8:List SRow):Int×(List Int)→Option ((Int×(List Int))⊕(List Int)):=fun (v9,m10)=>
 cond (decide (v9<(x8.length:Int)))
  ((idx x8 v9).bind fun x11=>
   (points_At fu x11 v1).bind fun (r12:Int)=>
   (idx m10 v9).bind fun x13=>
   some (.inl (IntKind.wrap .i64 (v9+1),m10.set v9.toNat r12)))
  (some (.inr m10))
def order_spots_y_3 (fu:Nat) (v1:List Int) (m2:List (List SRow)) (m3:Int) (m4:Int) (m5:Int) (m6:List Sspot) (m7:List Sspot):Option (Int×(List (List SRow))×Int×Int×Int×(List Sspot)×(List Sspot)):=
 cond ((m7.length:Int)==1024)
  (some (2,m2,5,m4,m5,([]:List Sspot),m7))
  ((chk ((0:Int)≤m4∧m4≤m4∧((8:Nat):Int)*m4≤281474976710656∧m4≤9223372036854775807)).bind fun _=>
   (idx m2 m5).bind fun x8=>
   (loopF (order_spots_y_3_l1 fu v1 x8) fu (0,List.replicate (Int.toNat m4) (0:Int))).bind fun (m14:List Int)=>
   (chk (m7.length+[(⟨(⟨m5,v1⟩:SSpot),(m7.length:Int),m14⟩:Sspot)].length≤maxLen∧(m7.length+[(⟨(⟨m5,v1⟩:SSpot),(m7.length:Int),m14⟩:Sspot)].length)*64≤140737488355328)).bind fun _=>
   some (0,m2,m3,m4,m5,m6,m7++[(⟨(⟨m5,v1⟩:SSpot),(m7.length:Int),m14⟩:Sspot)]))
def points_walk_4_l1 (self:SPoints→Int→(List Int)→Int→(List (List SRow))→Int→Int→Int→(List Sspot)→(List Sspot)→Option (Bool×(List Int)×Int×(List (List SRow))×Int×Int×Int×(List Sspot)×(List Sspot))) (fu:Nat) (p1:SPoints) (k2:Int):(List Int)×Int×(List (List SRow))×Int×Int×Int×(List Sspot)×(List Sspot)→Option (((List Int)×Int×(List (List SRow))×Int×Int×Int×(List Sspot)×(List Sspot))⊕(Ex ((List Int)×Int×(List (List SRow))×Int×Int×Int×(List Sspot)×(List Sspot)) (Bool×(List Int)×Int×(List (List SRow))×Int×Int×Int×(List Sspot)×(List Sspot)))):=fun (m21,m22,m23,m24,m25,m26,m27,m28)=>
 (idx m21 k2).bind fun x42=>
 (idx p1.Box k2).bind fun x43=>
 cond (decide (x42<x43))
  ((self p1 (IntKind.wrap .i64 (k2+1)) m21 m22 m23 m24 m25 m26 m27 m28).bind fun ((r44,r45,r46,r47,r48,r49,r50,r51,r52):Bool×(List Int)×Int×(List (List SRow))×Int×Int×Int×(List Sspot)×(List Sspot))=>
   bif Nat.beq (List.length r45) (List.length m21) then
   cond (!r44)
    (some (.inr (.ret (false,r45,r46,r47,r48,r49,r50,r51,r52))))
    ((idx r45 k2).bind fun x53=>
    (idx r45 k2).bind fun x54=>
    some (.inl (r45.set k2.toNat (IntKind.wrap .i64 (x53+1)),r46,r47,r48,r49,r50,r51,r52)))
   else none)
  (some (.inr (.brk (m21,m22,m23,m24,m25,m26,m27,m28))))
def points_walk_4_b (self:SPoints→Int→(List Int)→Int→(List (List SRow))→Int→Int→Int→(List Sspot)→(List Sspot)→Option (Bool×(List Int)×Int×(List (List SRow))×Int×Int×Int×(List Sspot)×(List Sspot))) (fu:Nat) (p1:SPoints) (k2:Int) (m3:List Int) (m4:Int) (m5:List (List SRow)) (m6:Int) (m7:Int) (m8:Int) (m9:List Sspot) (m10:List Sspot):Option (Bool×(List Int)×Int×(List (List SRow))×Int×Int×Int×(List Sspot)×(List Sspot)):=
 (points_hopeless fu p1 m3 k2).bind fun (r11:Bool)=>
 cond r11
  (some (true,m3,m4,m5,m6,m7,m8,m9,m10))
  (cond (k2==(p1.Box.length:Int))
    ((slices_Clone fu m3).bind fun (r12:List Int)=>
    (chk (m4=0)).bind fun _=>
    (order_spots_y_3 fu r12 m5 m6 m7 m8 m9 m10).bind fun ((r13,r14,r15,r16,r17,r18,r19):Int×(List (List SRow))×Int×Int×Int×(List Sspot)×(List Sspot))=>
    cond (r13==0)
     (some (true,m3,0,r14,r15,r16,r17,r18,r19))
     (some (false,m3,r13,r14,r15,r16,r17,r18,r19)))
    ((idx m3 k2).bind fun x20=>
    bindE (fun r=>r) (loopF (points_walk_4_l1 self fu p1 k2) fu (m3.set k2.toNat 0,m4,m5,m6,m7,m8,m9,m10):Option (Ex ((List Int)×Int×(List (List SRow))×Int×Int×Int×(List Sspot)×(List Sspot)) (Bool×(List Int)×Int×(List (List SRow))×Int×Int×Int×(List Sspot)×(List Sspot)))) fun ((m55,m56,m57,m58,m59,m60,m61,m62):(List Int)×Int×(List (List SRow))×Int×Int×Int×(List Sspot)×(List Sspot))=>
    some (true,m55,m56,m57,m58,m59,m60,m61,m62)))
def points_walk_4:Nat→SPoints→Int→(List Int)→Int→(List (List SRow))→Int→Int→Int→(List Sspot)→(List Sspot)→Option (Bool×(List Int)×Int×(List (List SRow))×Int×Int×Int×(List Sspot)×(List Sspot))
 | 0=>fun _ _ _ _ _ _ _ _ _ _=>none
 | fu+1=>points_walk_4_b (points_walk_4 fu) (fu+1)
def points_All_1 (fu:Nat) (m1:Int) (m2:List Int) (m3:List SRow) (m4:List (List SRow)) (m5:Int) (m6:Int) (m7:Int) (m8:List Sspot) (m9:List Sspot):Option (Int×(List Int)×(List SRow)×(List (List SRow))×Int×Int×Int×(List Sspot)×(List Sspot)):=
 (points_Wrong fu (⟨m2,m3⟩:SPoints)).bind fun (r10:Int)=>
 (cond (r10==0)
   ((chk ((0:Int)≤(m2.length:Int)∧(m2.length:Int)≤(m2.length:Int)∧((8:Nat):Int)*(m2.length:Int)≤281474976710656∧(m2.length:Int)≤9223372036854775807)).bind fun _=>
    (points_walk_4 fu (⟨m2,m3⟩:SPoints) 0 (List.replicate (Int.toNat (m2.length:Int)) (0:Int)) m1 m4 m5 m6 m7 m8 m9).bind fun ((r11,r12,r13,r14,r15,r16,r17,r18,r19):Bool×(List Int)×Int×(List (List SRow))×Int×Int×Int×(List Sspot)×(List Sspot))=>
    bif Nat.beq (List.length r12) (List.length (List.replicate (Int.toNat (m2.length:Int)) (0:Int))) then
    some (r13,r14,r15,r16,r17,r18,r19)
    else none)
   (some (m1,m4,m5,m6,m7,m8,m9))).bind fun ((m20,m21,m22,m23,m24,m25,m26):Int×(List (List SRow))×Int×Int×Int×(List Sspot)×(List Sspot))=>
 some (m20,m2,m3,m21,m22,m23,m24,m25,m26)
def order_spots_l1 (fu:Nat) (times2:List (List SRow)):Int×Int→Option ((Int×Int)⊕Int):=fun (v4,m5)=>
 cond (decide (v4<(times2.length:Int)))
  ((idx times2 v4).bind fun x6=>
   some (.inl (IntKind.wrap .i64 (v4+1),(if (x6.length:Int)>m5 then(x6.length:Int) else m5))))
  (some (.inr m5))
def order_spots_l2 (fu:Nat) (n1:SNest):Int×(List (List SRow))×Int×Int×(List Sspot)×(List Sspot)→Option ((Int×(List (List SRow))×Int×Int×(List Sspot)×(List Sspot))⊕(Ex ((List (List SRow))×Int×Int×(List Sspot)×(List Sspot)) (Int×(List Sspot)))):=fun (v8,m9,m10,m11,m12,m13)=>
 cond (decide (v8<(n1.Stmts.length:Int)))
  ((idx n1.Stmts v8).bind fun x14=>
   (points_All fu x14.Over).bind fun ((r15,r16):(List Int)×(List SRow))=>
   (points_All_1 fu 0 r15 r16 m9 m10 m11 v8 m12 m13).bind fun ((r17,r18,r19,r20,r21,r22,r23,r24,r25):Int×(List Int)×(List SRow)×(List (List SRow))×Int×Int×Int×(List Sspot)×(List Sspot))=>
   cond (r17==0)
    (some (.inl (IntKind.wrap .i64 (v8+1),r20,r21,r22,r24,r25)))
    (cond (r17==1)
     (none)
     (some (.inr (.ret (r21,r24))))))
  (some (.inr (.brk (m9,m10,m11,m12,m13))))
def order_spots (fu:Nat) (n1:SNest) (times2:List (List SRow)):Option (Int×(List Sspot)):=
 (order_Wrong fu n1 times2).bind fun (r3:Int)=>
 cond (r3 !=0)
  (some (r3,([]:List Sspot)))
  ((loopF (order_spots_l1 fu times2) fu (0,0)).bind fun (m7:Int)=>
   bindE (fun r=>r) (loopF (order_spots_l2 fu n1) fu (0,times2,0,m7,([]:List Sspot),([]:List Sspot)):Option (Ex ((List (List SRow))×Int×Int×(List Sspot)×(List Sspot)) (Int×(List Sspot)))) fun ((m26,m27,m28,m29,m30):(List (List SRow))×Int×Int×(List Sspot)×(List Sspot))=>
   some (0,m30))
def order_cellOf (fu:Nat) (n1:SNest) (a2:SAccess) (x3:List Int):Option (Scell×Bool):=
 (points_At fu a2.At x3).bind fun (r4:Int)=>
 (cond (decide (r4≥0)) ((idx n1.Sizes a2.Array).bind fun x5=>
  some (decide (r4<x5),a2.Array,r4)) (some (false,a2.Array,r4))).bind fun ((v6,m7,m8):Bool×Int×Int)=>
 some ((⟨m7,m8⟩:Scell),v6)
def order_pairs_1 (fu:Nat) (c1:Scell) (m2:MDat):Option (Bool×Int×Int×MDat):=
 (cond (!(!(mgN m2.es c1.array c1.at_)))
   ((chk (m2.n+1≤maxLen∧mgN m2.es c1.array c1.at_=true)).bind fun _=>
    some (false,((m2.n:Nat):Int),((0:Nat):Int),mput m2 c1.array c1.at_ 3))
   (some ((mgN m2.es c1.array c1.at_),(((mgT m2.es c1.array c1.at_):Nat):Int),((0:Nat):Int),m2))).bind fun ((t3,t4,t5,m6):Bool×Int×Int×MDat)=>
 some (t3,(((Int.toNat t4):Nat):Int),(((Int.toNat t5):Nat):Int),m6)
def cmp_isNaN (fu:Nat) (x1:Int):Option (Bool):=
 some (x1 !=x1)
def cmp_Compare (fu:Nat) (x1:Int) (y2:Int):Option (Int):=
 (cmp_isNaN fu x1).bind fun (r3:Bool)=>
 (cmp_isNaN fu y2).bind fun (r4:Bool)=>
 cond r3
  (cond r4
    (some 0)
    (some (-1)))
  (cond r4
    (some 1)
    (cond (decide (x1<y2))
     (some (-1))
     (cond (decide (x1>y2))
       (some 1)
       (some 0))))
def slices_Compare_l1 (fu:Nat) (s1:List Int) (s2:List Int):Int→Option (Int⊕(Ex Unit Int)):=fun v3=>
 cond (decide (v3<(s1.length:Int)))
  ((idx s1 v3).bind fun x4=>
   cond (decide (v3≥(s2.length:Int)))
    (some (.inr (.ret 1)))
    ((idx s2 v3).bind fun x5=>
    (cmp_Compare fu x4 x5).bind fun (r6:Int)=>
    cond (r6 !=0)
     (some (.inr (.ret r6)))
     (some (.inl (IntKind.wrap .i64 (v3+1))))))
  (some (.inr (.brk ())))
def slices_Compare (fu:Nat) (s1:List Int) (s2:List Int):Option (Int):=
 bindE (fun r=>r) (loopF (slices_Compare_l1 fu s1 s2) fu 0:Option (Ex Unit Int)) fun (_:Unit)=>
 cond (decide ((s1.length:Int)<(s2.length:Int)))
  (some (-1))
  (some 0)
def order_Legal_1 (fu:Nat) (a1:Sspot) (b2:Sspot):Option (Bool):=
 (slices_Compare fu b2.time a1.time).bind fun (r3:Int)=>
 some (decide (r3<0))
end F
namespace Gn
open F
def see (bd:Sspot→Sspot→Option Bool) (fu:Nat) (k1:Int) (m2:Int) (m3:List Sspot) (m4:Int) (m5:List Int) (m6:Int) (m7:List Int):Option (Int×(List Sspot)×Int×(List Int)×Int×(List Int)):=
 (cond (decide (m2<0)) ((idx m3 k1).bind fun x10=>
  (bd x10 (⟨(⟨m4,m5⟩:SSpot),m6,m7⟩:Sspot)).bind fun (r11:Bool)=>
  some r11) (cond (decide (k1<m2)) ((idx m3 k1).bind fun x8=>
  (bd x8 (⟨(⟨m4,m5⟩:SSpot),m6,m7⟩:Sspot)).bind fun (r9:Bool)=>
  some r9) (some false))).bind fun (v12:Bool)=>
 (cond v12
   (some k1)
   (some m2)).bind fun (m13:Int)=>
 some (m13,m3,m4,m5,m6,m7)
def two_l1 (bd:Sspot→Sspot→Option Bool) (fu:Nat) (l1:Int) (m3:Int) (m4:Int) (m5:Int) (m6:Int) (m7:MDat) (v14:Int):Int×Int×(List Sspot)×Int×(List Int)×Int×(List Int)→Option ((Int×Int×(List Sspot)×Int×(List Int)×Int×(List Int))⊕(Int×(List Sspot)×Int×(List Int)×Int×(List Int))):=fun (v21,m22,m23,m24,m25,m26,m27)=>
 cond (decide (v21<(((([((Int.toNat m3),(Int.toNat m4)),((Int.toNat m5),(Int.toNat m6))]:List (Nat×Nat)).getD ((Int.toNat l1)+v14.toNat) (0,0)).2:Nat):Int)))
  ((chk ((0:Int)≤v21∧v21<(((([((Int.toNat m3),(Int.toNat m4)),((Int.toNat m5),(Int.toNat m6))]:List (Nat×Nat)).getD ((Int.toNat l1)+v14.toNat) (0,0)).2:Nat):Int))).bind fun _=>
   (mcell m7.es ((([((Int.toNat m3),(Int.toNat m4)),((Int.toNat m5),(Int.toNat m6))]:List (Nat×Nat)).getD ((Int.toNat l1)+v14.toNat) (0,0)).1) v21.toNat).bind fun x28=>
   (see bd fu x28 m22 m23 m24 m25 m26 m27).bind fun ((r29,r30,r31,r32,r33,r34):Int×(List Sspot)×Int×(List Int)×Int×(List Int))=>
   some (.inl (IntKind.wrap .i64 (v21+1),r29,r30,r31,r32,r33,r34)))
  (some (.inr (m22,m23,m24,m25,m26,m27)))
def two_l2 (bd:Sspot→Sspot→Option Bool) (fu:Nat) (l1:Int) (l2:Int) (m3:Int) (m4:Int) (m5:Int) (m6:Int) (m7:MDat):Int×Int×(List Sspot)×Int×(List Int)×Int×(List Int)→Option ((Int×Int×(List Sspot)×Int×(List Int)×Int×(List Int))⊕(Int×(List Sspot)×Int×(List Int)×Int×(List Int))):=fun (v14,m15,m16,m17,m18,m19,m20)=>
 cond (decide (v14<(((Int.toNat l2):Nat):Int)))
  ((chk ((0:Int)≤v14∧v14<(((Int.toNat l2):Nat):Int))).bind fun _=>
   (chk (((Int.toNat l1)+v14.toNat)<([((Int.toNat m3),(Int.toNat m4)),((Int.toNat m5),(Int.toNat m6))]:List (Nat×Nat)).length)).bind fun _=>
   (loopF (two_l1 bd fu l1 m3 m4 m5 m6 m7 v14) fu (0,m15,m16,m17,m18,m19,m20)).bind fun ((m35,m36,m37,m38,m39,m40):Int×(List Sspot)×Int×(List Int)×Int×(List Int))=>
   some (.inl (IntKind.wrap .i64 (v14+1),m35,m36,m37,m38,m39,m40)))
  (some (.inr (m15,m16,m17,m18,m19,m20)))
def two (bd:Sspot→Sspot→Option Bool) (fu:Nat) (l1:Int) (l2:Int) (m3:Int) (m4:Int) (m5:Int) (m6:Int) (m7:MDat) (m8:Int) (m9:List Sspot) (m10:Int) (m11:List Int) (m12:Int) (m13:List Int):Option (MDat×Int×(List Sspot)×Int×(List Int)×Int×(List Int)):=
 (loopF (two_l2 bd fu l1 l2 m3 m4 m5 m6 m7) fu (0,m8,m9,m10,m11,m12,m13)).bind fun ((m41,m42,m43,m44,m45,m46):Int×(List Sspot)×Int×(List Int)×Int×(List Int))=>
 some (m7,m41,m42,m43,m44,m45,m46)
def one_l1 (bd:Sspot→Sspot→Option Bool) (fu:Nat) (l1:Int) (m3:Int) (m4:Int) (m5:MDat) (v12:Int):Int×Int×(List Sspot)×Int×(List Int)×Int×(List Int)→Option ((Int×Int×(List Sspot)×Int×(List Int)×Int×(List Int))⊕(Int×(List Sspot)×Int×(List Int)×Int×(List Int))):=fun (v19,m20,m21,m22,m23,m24,m25)=>
 cond (decide (v19<(((([((Int.toNat m3),(Int.toNat m4))]:List (Nat×Nat)).getD ((Int.toNat l1)+v12.toNat) (0,0)).2:Nat):Int)))
  ((chk ((0:Int)≤v19∧v19<(((([((Int.toNat m3),(Int.toNat m4))]:List (Nat×Nat)).getD ((Int.toNat l1)+v12.toNat) (0,0)).2:Nat):Int))).bind fun _=>
   (mcell m5.es ((([((Int.toNat m3),(Int.toNat m4))]:List (Nat×Nat)).getD ((Int.toNat l1)+v12.toNat) (0,0)).1) v19.toNat).bind fun x26=>
   (see bd fu x26 m20 m21 m22 m23 m24 m25).bind fun ((r27,r28,r29,r30,r31,r32):Int×(List Sspot)×Int×(List Int)×Int×(List Int))=>
   some (.inl (IntKind.wrap .i64 (v19+1),r27,r28,r29,r30,r31,r32)))
  (some (.inr (m20,m21,m22,m23,m24,m25)))
def one_l2 (bd:Sspot→Sspot→Option Bool) (fu:Nat) (l1:Int) (l2:Int) (m3:Int) (m4:Int) (m5:MDat):Int×Int×(List Sspot)×Int×(List Int)×Int×(List Int)→Option ((Int×Int×(List Sspot)×Int×(List Int)×Int×(List Int))⊕(Int×(List Sspot)×Int×(List Int)×Int×(List Int))):=fun (v12,m13,m14,m15,m16,m17,m18)=>
 cond (decide (v12<(((Int.toNat l2):Nat):Int)))
  ((chk ((0:Int)≤v12∧v12<(((Int.toNat l2):Nat):Int))).bind fun _=>
   (chk (((Int.toNat l1)+v12.toNat)<([((Int.toNat m3),(Int.toNat m4))]:List (Nat×Nat)).length)).bind fun _=>
   (loopF (one_l1 bd fu l1 m3 m4 m5 v12) fu (0,m13,m14,m15,m16,m17,m18)).bind fun ((m33,m34,m35,m36,m37,m38):Int×(List Sspot)×Int×(List Int)×Int×(List Int))=>
   some (.inl (IntKind.wrap .i64 (v12+1),m33,m34,m35,m36,m37,m38)))
  (some (.inr (m13,m14,m15,m16,m17,m18)))
def one (bd:Sspot→Sspot→Option Bool) (fu:Nat) (l1:Int) (l2:Int) (m3:Int) (m4:Int) (m5:MDat) (m6:Int) (m7:List Sspot) (m8:Int) (m9:List Int) (m10:Int) (m11:List Int):Option (MDat×Int×(List Sspot)×Int×(List Int)×Int×(List Int)):=
 (loopF (one_l2 bd fu l1 l2 m3 m4 m5) fu (0,m6,m7,m8,m9,m10,m11)).bind fun ((m39,m40,m41,m42,m43,m44):Int×(List Sspot)×Int×(List Int)×Int×(List Int))=>
 some (m5,m39,m40,m41,m42,m43,m44)
def pairs_l1 (bd:Sspot→Sspot→Option Bool) (fu:Nat) (n1:SNest) (s2:Sspot) (x10:SStmt) (r12:Bool):Int×MDat×Int×(List Sspot)×Int×(List Int)×Int×(List Int)×(List Scell)→Option ((Int×MDat×Int×(List Sspot)×Int×(List Int)×Int×(List Int)×(List Scell))⊕(MDat×Int×(List Sspot)×Int×(List Int)×Int×(List Int)×(List Scell))):=fun (v56,m57,m58,m59,m60,m61,m62,m63,m64)=>
 cond (decide (v56<(x10.Get.length:Int)))
  ((idx x10.Get v56).bind fun x65=>
   (order_cellOf fu n1 x65 s2.Spot.At).bind fun ((r66,r67):Scell×Bool)=>
   (cond r67 (some r12) (some false)).bind fun (v68:Bool)=>
   (cond v68
     (((order_pairs_1 fu r66 m57).bind fun ((r69,r70,r71,r72):Bool×Int×Int×MDat)=>
      (chk (r69=false)).bind fun _=>
      amb ((mfld r72.es (Int.toNat r70) ((Int.toNat r71)+0)).bind fun p73=>
      (order_pairs_1 fu r66 r72).bind fun ((r74,r75,r76,r77):Bool×Int×Int×MDat)=>
      (chk (r74=false)).bind fun _=>
      (mfld r77.es (Int.toNat r75) ((Int.toNat r76)+1)).bind fun p78=>
      (two bd fu ((0:Nat):Int) ((2:Nat):Int) ((p73.1:Nat):Int) (((List.length p73.2):Nat):Int) ((p78.1:Nat):Int) (((List.length p78.2):Nat):Int) r77 m58 m59 m60 m61 m62 m63).bind fun ((r79,r80,r81,r82,r83,r84,r85):MDat×Int×(List Sspot)×Int×(List Int)×Int×(List Int))=>
      some (r79,r80,r81,r82,r83,r84,r85)) ((order_pairs_1 fu r66 r72).bind fun ((r73,r74,r75,r76):Bool×Int×Int×MDat)=>
      (chk (r73=false)).bind fun _=>
      amb ((mfld r76.es (Int.toNat r70) ((Int.toNat r71)+0)).bind fun p77=>
      (mfld r76.es (Int.toNat r74) ((Int.toNat r75)+1)).bind fun p78=>
      (two bd fu ((0:Nat):Int) ((2:Nat):Int) ((p77.1:Nat):Int) (((List.length p77.2):Nat):Int) ((p78.1:Nat):Int) (((List.length p78.2):Nat):Int) r76 m58 m59 m60 m61 m62 m63).bind fun ((r79,r80,r81,r82,r83,r84,r85):MDat×Int×(List Sspot)×Int×(List Int)×Int×(List Int))=>
      some (r79,r80,r81,r82,r83,r84,r85)) ((mfld r76.es (Int.toNat r74) ((Int.toNat r75)+1)).bind fun p77=>
      (mfld r76.es (Int.toNat r70) ((Int.toNat r71)+0)).bind fun p78=>
      (two bd fu ((0:Nat):Int) ((2:Nat):Int) ((p78.1:Nat):Int) (((List.length p78.2):Nat):Int) ((p77.1:Nat):Int) (((List.length p77.2):Nat):Int) r76 m58 m59 m60 m61 m62 m63).bind fun ((r79,r80,r81,r82,r83,r84,r85):MDat×Int×(List Sspot)×Int×(List Int)×Int×(List Int))=>
      some (r79,r80,r81,r82,r83,r84,r85)))).bind fun ((m86,m87,m88,m89,m90,m91,m92):MDat×Int×(List Sspot)×Int×(List Int)×Int×(List Int))=>
     (chk (m64.length+[r66].length≤maxLen∧(m64.length+[r66].length)*16≤140737488355328)).bind fun _=>
     some (m86,m87,m88,m89,m90,m91,m92,m64++[r66]))
     (some (m57,m58,m59,m60,m61,m62,m63,m64))).bind fun ((m93,m94,m95,m96,m97,m98,m99,m100):MDat×Int×(List Sspot)×Int×(List Int)×Int×(List Int)×(List Scell))=>
   some (.inl (IntKind.wrap .i64 (v56+1),m93,m94,m95,m96,m97,m98,m99,m100)))
  (some (.inr (m57,m58,m59,m60,m61,m62,m63,m64)))
def pairs_l2 (fu:Nat) (s2:Sspot) (m108:List Scell):Int×MDat→Option ((Int×MDat)⊕MDat):=fun (v136,m137)=>
 cond (decide (v136<(m108.length:Int)))
  ((idx m108 v136).bind fun x138=>
   (amb ((order_pairs_1 fu x138 m137).bind fun ((r139,r140,r141,r142):Bool×Int×Int×MDat)=>
    amb ((order_pairs_1 fu x138 r142).bind fun ((r143,r144,r145,r146):Bool×Int×Int×MDat)=>
    (chk (r143=false)).bind fun _=>
    amb2 ((mfld r146.es (Int.toNat r144) ((Int.toNat r145)+2)).bind fun p147=>
    (mapp r146 p147.1 (List.length p147.2) s2.number 8).bind fun m148=>
    (chk (r139=false)).bind fun _=>
    (mstore m148 (Int.toNat r140) ((Int.toNat r141)+2) r146.n ((List.length p147.2)+1)).bind fun m149=>
    some m149)) ((order_pairs_1 fu x138 r142).bind fun ((r143,r144,r145,r146):Bool×Int×Int×MDat)=>
    (chk (r143=false)).bind fun _=>
    (mfld r146.es (Int.toNat r144) ((Int.toNat r145)+2)).bind fun p147=>
    (mapp r146 p147.1 (List.length p147.2) s2.number 8).bind fun m148=>
    (chk (r139=false)).bind fun _=>
    (mstore m148 (Int.toNat r140) ((Int.toNat r141)+2) r146.n ((List.length p147.2)+1)).bind fun m149=>
    some m149)) ((order_pairs_1 fu x138 m137).bind fun ((r139,r140,r141,r142):Bool×Int×Int×MDat)=>
    (order_pairs_1 fu x138 r142).bind fun ((r143,r144,r145,r146):Bool×Int×Int×MDat)=>
    (chk (r143=false)).bind fun _=>
    (mfld r146.es (Int.toNat r144) ((Int.toNat r145)+2)).bind fun p147=>
    (mapp r146 p147.1 (List.length p147.2) s2.number 8).bind fun m148=>
    (chk (r139=false)).bind fun _=>
    (mstore m148 (Int.toNat r140) ((Int.toNat r141)+2) r146.n ((List.length p147.2)+1)).bind fun m149=>
    some m149)).bind fun (m150:MDat)=>
   some (.inl (IntKind.wrap .i64 (v136+1),m150)))
  (some (.inr m137))
def pairs (bd:Sspot→Sspot→Option Bool) (fu:Nat) (n1:SNest) (s2:Sspot) (m3:MDat) (m4:Int) (m5:List Sspot) (m6:Int) (m7:List Int) (m8:Int) (m9:List Int):Option (MDat×Int×(List Sspot)×Int×(List Int)×Int×(List Int)):=
 (idx n1.Stmts s2.Spot.Stmt).bind fun x10=>
 (order_cellOf fu n1 x10.Put s2.Spot.At).bind fun ((r11,r12):Scell×Bool)=>
 (cond (x10.Do==9) (some true) (some (x10.Do==10))).bind fun (adds13:Bool)=>
 (cond r12
   ((order_pairs_1 fu r11 m3).bind fun ((r14,r15,r16,r17):Bool×Int×Int×MDat)=>
    ((chk (r14=false)).bind fun _=>
     (chk (r14=false)).bind fun _=>
     amb ((mfld r17.es (Int.toNat r15) ((Int.toNat r16)+0)).bind fun p18=>
     (mfld r17.es (Int.toNat r15) ((Int.toNat r16)+2)).bind fun p19=>
     (two bd fu ((0:Nat):Int) ((2:Nat):Int) ((p18.1:Nat):Int) (((List.length p18.2):Nat):Int) ((p19.1:Nat):Int) (((List.length p19.2):Nat):Int) r17 m4 m5 m6 m7 m8 m9).bind fun ((r20,r21,r22,r23,r24,r25,r26):MDat×Int×(List Sspot)×Int×(List Int)×Int×(List Int))=>
     some (r20,r21,r22,r23,r24,r25,r26)) ((mfld r17.es (Int.toNat r15) ((Int.toNat r16)+2)).bind fun p18=>
     (mfld r17.es (Int.toNat r15) ((Int.toNat r16)+0)).bind fun p19=>
     (two bd fu ((0:Nat):Int) ((2:Nat):Int) ((p19.1:Nat):Int) (((List.length p19.2):Nat):Int) ((p18.1:Nat):Int) (((List.length p18.2):Nat):Int) r17 m4 m5 m6 m7 m8 m9).bind fun ((r20,r21,r22,r23,r24,r25,r26):MDat×Int×(List Sspot)×Int×(List Int)×Int×(List Int))=>
     some (r20,r21,r22,r23,r24,r25,r26))).bind fun ((m27,m28,m29,m30,m31,m32,m33):MDat×Int×(List Sspot)×Int×(List Int)×Int×(List Int))=>
    (cond (!adds13)
      ((chk (r14=false)).bind fun _=>
      (mfld m27.es (Int.toNat r15) ((Int.toNat r16)+1)).bind fun p34=>
      (one bd fu ((0:Nat):Int) ((1:Nat):Int) ((p34.1:Nat):Int) (((List.length p34.2):Nat):Int) m27 m28 m29 m30 m31 m32 m33).bind fun ((r35,r36,r37,r38,r39,r40,r41):MDat×Int×(List Sspot)×Int×(List Int)×Int×(List Int))=>
      some (r35,r36,r37,r38,r39,r40,r41))
      (some (m27,m28,m29,m30,m31,m32,m33))).bind fun ((m42,m43,m44,m45,m46,m47,m48):MDat×Int×(List Sspot)×Int×(List Int)×Int×(List Int))=>
    some (m42,m43,m44,m45,m46,m47,m48))
   (some (m3,m4,m5,m6,m7,m8,m9))).bind fun ((m49,m50,m51,m52,m53,m54,m55):MDat×Int×(List Sspot)×Int×(List Int)×Int×(List Int))=>
 (loopF (pairs_l1 bd fu n1 s2 x10 r12) fu (0,m49,m50,m51,m52,m53,m54,m55,([]:List Scell))).bind fun ((m101,m102,m103,m104,m105,m106,m107,m108):MDat×Int×(List Sspot)×Int×(List Int)×Int×(List Int)×(List Scell))=>
 (cond r12 (some adds13) (some false)).bind fun (v109:Bool)=>
 (cond v109
   ((amb ((order_pairs_1 fu r11 m101).bind fun ((r110,r111,r112,r113):Bool×Int×Int×MDat)=>
     amb ((order_pairs_1 fu r11 r113).bind fun ((r114,r115,r116,r117):Bool×Int×Int×MDat)=>
     (chk (r114=false)).bind fun _=>
     amb2 ((mfld r117.es (Int.toNat r115) ((Int.toNat r116)+1)).bind fun p118=>
     (mapp r117 p118.1 (List.length p118.2) s2.number 8).bind fun m119=>
     (chk (r110=false)).bind fun _=>
     (mstore m119 (Int.toNat r111) ((Int.toNat r112)+1) r117.n ((List.length p118.2)+1)).bind fun m120=>
     some m120)) ((order_pairs_1 fu r11 r113).bind fun ((r114,r115,r116,r117):Bool×Int×Int×MDat)=>
     (chk (r114=false)).bind fun _=>
     (mfld r117.es (Int.toNat r115) ((Int.toNat r116)+1)).bind fun p118=>
     (mapp r117 p118.1 (List.length p118.2) s2.number 8).bind fun m119=>
     (chk (r110=false)).bind fun _=>
     (mstore m119 (Int.toNat r111) ((Int.toNat r112)+1) r117.n ((List.length p118.2)+1)).bind fun m120=>
     some m120)) ((order_pairs_1 fu r11 m101).bind fun ((r110,r111,r112,r113):Bool×Int×Int×MDat)=>
     (order_pairs_1 fu r11 r113).bind fun ((r114,r115,r116,r117):Bool×Int×Int×MDat)=>
     (chk (r114=false)).bind fun _=>
     (mfld r117.es (Int.toNat r115) ((Int.toNat r116)+1)).bind fun p118=>
     (mapp r117 p118.1 (List.length p118.2) s2.number 8).bind fun m119=>
     (chk (r110=false)).bind fun _=>
     (mstore m119 (Int.toNat r111) ((Int.toNat r112)+1) r117.n ((List.length p118.2)+1)).bind fun m120=>
     some m120)).bind fun (m121:MDat)=>
    some m121)
   ((cond r12
      ((amb ((order_pairs_1 fu r11 m101).bind fun ((r122,r123,r124,r125):Bool×Int×Int×MDat)=>
       amb ((order_pairs_1 fu r11 r125).bind fun ((r126,r127,r128,r129):Bool×Int×Int×MDat)=>
       (chk (r126=false)).bind fun _=>
       amb2 ((mfld r129.es (Int.toNat r127) ((Int.toNat r128)+0)).bind fun p130=>
       (mapp r129 p130.1 (List.length p130.2) s2.number 8).bind fun m131=>
       (chk (r122=false)).bind fun _=>
       (mstore m131 (Int.toNat r123) ((Int.toNat r124)+0) r129.n ((List.length p130.2)+1)).bind fun m132=>
       some m132)) ((order_pairs_1 fu r11 r125).bind fun ((r126,r127,r128,r129):Bool×Int×Int×MDat)=>
       (chk (r126=false)).bind fun _=>
       (mfld r129.es (Int.toNat r127) ((Int.toNat r128)+0)).bind fun p130=>
       (mapp r129 p130.1 (List.length p130.2) s2.number 8).bind fun m131=>
       (chk (r122=false)).bind fun _=>
       (mstore m131 (Int.toNat r123) ((Int.toNat r124)+0) r129.n ((List.length p130.2)+1)).bind fun m132=>
       some m132)) ((order_pairs_1 fu r11 m101).bind fun ((r122,r123,r124,r125):Bool×Int×Int×MDat)=>
       (order_pairs_1 fu r11 r125).bind fun ((r126,r127,r128,r129):Bool×Int×Int×MDat)=>
       (chk (r126=false)).bind fun _=>
       (mfld r129.es (Int.toNat r127) ((Int.toNat r128)+0)).bind fun p130=>
       (mapp r129 p130.1 (List.length p130.2) s2.number 8).bind fun m131=>
       (chk (r122=false)).bind fun _=>
       (mstore m131 (Int.toNat r123) ((Int.toNat r124)+0) r129.n ((List.length p130.2)+1)).bind fun m132=>
       some m132)).bind fun (m133:MDat)=>
      some m133)
      (some m101)).bind fun (m134:MDat)=>
    some m134)).bind fun (m135:MDat)=>
 (loopF (pairs_l2 fu s2 m108) fu (0,m135)).bind fun (m151:MDat)=>
 some (m151,m102,m103,m104,m105,m106,m107)
def search_l1 (bd:Sspot→Sspot→Option Bool) (fu:Nat) (n1:SNest) (r4:List Sspot):Int×MDat×(List Sspot)×Bool×Int×(List Int)×Int×(List Int)→Option ((Int×MDat×(List Sspot)×Bool×Int×(List Int)×Int×(List Int))⊕(Ex (MDat×(List Sspot)×Bool×Int×(List Int)×Int×(List Int)) (SFound×Int))):=fun (v5,m6,m7,m8,m9,m10,m11,m12)=>
 cond (decide (v5<(r4.length:Int)))
  ((idx r4 v5).bind fun x13=>
   (pairs bd fu n1 (⟨(⟨x13.Spot.Stmt,x13.Spot.At⟩:SSpot),x13.number,x13.time⟩:Sspot) m6 (-1) m7 x13.Spot.Stmt x13.Spot.At x13.number x13.time).bind fun ((r14,r15,r16,r17,r18,r19,r20):MDat×Int×(List Sspot)×Int×(List Int)×Int×(List Int))=>
   cond (decide (r15≥0))
    ((idx r16 r15).bind fun x21=>
    some (.inr (.ret ((⟨true,(⟨x21.Spot.Stmt,x21.Spot.At⟩:SSpot),(⟨r17,r18⟩:SSpot)⟩:SFound),0))))
    (some (.inl (IntKind.wrap .i64 (v5+1),r14,r16,m8,m9,m10,m11,m12))))
  (some (.inr (.brk (m6,m7,m8,m9,m10,m11,m12))))
def search (bd:Sspot→Sspot→Option Bool) (fu:Nat) (n1:SNest) (times2:List (List SRow)):Option (SFound×Int):=
 (order_spots fu n1 times2).bind fun ((r3,r4):Int×(List Sspot))=>
 cond (r3 !=0)
  (some ((⟨false,(⟨0,([]:List Int)⟩:SSpot),(⟨0,([]:List Int)⟩:SSpot)⟩:SFound),r3))
  (bindE (fun r=>r) (loopF (search_l1 bd fu n1 r4) fu (0,(⟨0,[],none⟩:MDat),r4,false,0,([]:List Int),0,([]:List Int)):Option (Ex (MDat×(List Sspot)×Bool×Int×(List Int)×Int×(List Int)) (SFound×Int))) fun ((m22,m23,m24,m25,m26,m27,m28):MDat×(List Sspot)×Bool×Int×(List Int)×Int×(List Int))=>
   some ((⟨false,(⟨0,([]:List Int)⟩:SSpot),(⟨0,([]:List Int)⟩:SSpot)⟩:SFound),0))
end Gn
namespace F
def order_search_1_2 (fu:Nat):=Gn.see (order_Legal_1 fu) fu
def order_pairs_2_3 (fu:Nat):=Gn.two (order_Legal_1 fu) fu
def order_pairs_2_4 (fu:Nat):=Gn.one (order_Legal_1 fu) fu
def order_pairs_3 (fu:Nat):=Gn.pairs (order_Legal_1 fu) fu
def order_search (fu:Nat):=Gn.search (order_Legal_1 fu) fu
def order_Legal (fu:Nat) (n1:SNest) (times2:List (List SRow)):Option (SFound×Int):=
 (order_search fu n1 times2).bind fun ((r3,r4):SFound×Int)=>
 some ((⟨r3.Any,(⟨r3.A.Stmt,r3.A.At⟩:SSpot),r3.B⟩:SFound),r4)
def adjointref9_Row_l1 (fu:Nat) (r1:SRow):Int→Option (Int⊕(Ex Unit Int)):=fun v3=>
 cond (decide (v3<(([r1.Const]++r1.Coef).length:Int)))
  ((idx ([r1.Const]++r1.Coef) v3).bind fun x4=>
   (cond (decide (x4>1048576)) (some true) (some (decide (x4<(-1048576))))).bind fun (v5:Bool)=>
   cond v5
    (some (.inr (.ret 4)))
    (some (.inl (IntKind.wrap .i64 (v3+1)))))
  (some (.inr (.brk ())))
def adjointref9_Row (fu:Nat) (r1:SRow) (vars2:Int):Option (Int):=
 cond ((r1.Coef.length:Int) !=vars2)
  (some 6)
  ((chk ([r1.Const].length+r1.Coef.length≤maxLen∧([r1.Const].length+r1.Coef.length)*8≤140737488355328)).bind fun _=>
   bindE (fun r=>r) (loopF (adjointref9_Row_l1 fu r1) fu 0:Option (Ex Unit Int)) fun (_:Unit)=>
   some 0)
def adjointref9_Wrong_l1 (fu:Nat) (p1:SPoints):Int×Int→Option ((Int×Int)⊕(Ex Int Int)):=fun (n2,v3)=>
 cond (decide (v3<(p1.Box.length:Int)))
  ((idx p1.Box v3).bind fun x4=>
   (cond (decide (x4<0)) (some true) (some (decide (x4>4096)))).bind fun (v5:Bool)=>
   cond v5
    (some (.inr (.ret 4)))
    (some (.inl (IntKind.wrap .i64 (n2*x4),IntKind.wrap .i64 (v3+1)))))
  (some (.inr (.brk n2)))
def adjointref9_Wrong_l2 (fu:Nat) (p1:SPoints):Int→Option (Int⊕(Ex Unit Int)):=fun v7=>
 cond (decide (v7<(p1.Rows.length:Int)))
  ((idx p1.Rows v7).bind fun x8=>
   (adjointref9_Row fu x8 (p1.Box.length:Int)).bind fun (r9:Int)=>
   cond (r9 !=0)
    (some (.inr (.ret r9)))
    (some (.inl (IntKind.wrap .i64 (v7+1)))))
  (some (.inr (.brk ())))
def adjointref9_Wrong (fu:Nat) (p1:SPoints):Option (Int):=
 cond (decide ((p1.Box.length:Int)>4))
  (some 3)
  (bindE (fun r=>r) (loopF (adjointref9_Wrong_l1 fu p1) fu (1,0):Option (Ex Int Int)) fun (n6:Int)=>
   cond (decide (n6>4096))
    (some 5)
    (cond (decide ((p1.Rows.length:Int)>8))
     (some 2)
     (bindE (fun r=>r) (loopF (adjointref9_Wrong_l2 fu p1) fu 0:Option (Ex Unit Int)) fun (_:Unit)=>
      some 0)))
def adjointref10_Takes (fu:Nat) (do1:Int):Option (Int):=
 cond (do1==1)
  (some 0)
  ((cond (do1==2)
     (some (do1==2))
     (some (do1==9))).bind fun (v2:Bool)=>
   cond v2
    (some 1)
    ((cond (do1==3)
      (some (do1==3))
      ((cond (do1==4)
         (some (do1==4))
         ((cond (do1==5)
           (some (do1==5))
           ((cond (do1==6)
              (some (do1==6))
              ((cond (do1==7)
                (some (do1==7))
                (some (do1==10))).bind fun (v3:Bool)=>
              some v3)).bind fun (v4:Bool)=>
            some v4)).bind fun (v5:Bool)=>
         some v5)).bind fun (v6:Bool)=>
       some v6)).bind fun (v7:Bool)=>
    cond v7
     (some 2)
     (cond (do1==8)
       (some 3)
       (some (-1)))))
def adjointref10_access (fu:Nat) (n1:SNest) (a2:SAccess) (vars3:Int):Option (Int):=
 (cond (decide (a2.Array<0)) (some true) (some (decide (a2.Array≥(n1.Sizes.length:Int))))).bind fun (v4:Bool)=>
 cond v4
  (some 4)
  ((adjointref9_Row fu a2.At vars3).bind fun (r5:Int)=>
   some r5)
def adjointref10_Wrong_l1 (fu:Nat) (n1:SNest):Int→Option (Int⊕(Ex Unit Int)):=fun v2=>
 cond (decide (v2<(n1.Sizes.length:Int)))
  ((idx n1.Sizes v2).bind fun x3=>
   (cond (decide (x3<0)) (some true) (some (decide (x3>65536)))).bind fun (v4:Bool)=>
   cond v4
    (some (.inr (.ret 4)))
    (some (.inl (IntKind.wrap .i64 (v2+1)))))
  (some (.inr (.brk ())))
def adjointref10_Wrong_l2 (fu:Nat) (n1:SNest) (x6:SStmt):Int→Option (Int⊕(Ex Unit (Int⊕(Ex Unit Int)))):=fun v11=>
 cond (decide (v11<(x6.Get.length:Int)))
  ((idx x6.Get v11).bind fun x12=>
   (adjointref10_access fu n1 x12 (x6.Over.Box.length:Int)).bind fun (r13:Int)=>
   cond (r13 !=0)
    (some (.inr (.ret (.inr (.ret r13)))))
    (some (.inl (IntKind.wrap .i64 (v11+1)))))
  (some (.inr (.brk ())))
def adjointref10_Wrong_l3 (fu:Nat) (n1:SNest):Int→Option (Int⊕(Ex Unit Int)):=fun v5=>
 cond (decide (v5<(n1.Stmts.length:Int)))
  ((idx n1.Stmts v5).bind fun x6=>
   (adjointref9_Wrong fu x6.Over).bind fun (r7:Int)=>
   cond (r7 !=0)
    (some (.inr (.ret r7)))
    ((adjointref10_Takes fu x6.Do).bind fun (r8:Int)=>
    cond (decide (r8<0))
     (some (.inr (.ret 1)))
     ((adjointref10_Takes fu x6.Do).bind fun (r9:Int)=>
      cond (r9 !=(x6.Get.length:Int))
       (some (.inr (.ret 2)))
       ((adjointref10_access fu n1 x6.Put (x6.Over.Box.length:Int)).bind fun (r10:Int)=>
       cond (r10 !=0)
        (some (.inr (.ret r10)))
        (bindE (fun r=>r) (loopF (adjointref10_Wrong_l2 fu n1 x6) fu 0:Option (Ex Unit (Int⊕(Ex Unit Int)))) fun (_:Unit)=>
         some (.inl (IntKind.wrap .i64 (v5+1))))))))
  (some (.inr (.brk ())))
def adjointref10_Wrong (fu:Nat) (n1:SNest):Option (Int):=
 cond (decide ((n1.Stmts.length:Int)>256))
  (some 2)
  (bindE (fun r=>r) (loopF (adjointref10_Wrong_l1 fu n1) fu 0:Option (Ex Unit Int)) fun (_:Unit)=>
   bindE (fun r=>r) (loopF (adjointref10_Wrong_l3 fu n1) fu 0:Option (Ex Unit Int)) fun (_:Unit)=>
   some 0)
def adjointref11_Wrong_l1 (fu:Nat) (n1:SNest) (v4:Int) (x5:List SRow):Int→Option (Int⊕(Ex Unit (Int⊕(Ex Unit Int)))):=fun v6=>
 cond (decide (v6<(x5.length:Int)))
  ((idx x5 v6).bind fun x7=>
   (idx n1.Stmts v4).bind fun x8=>
   (adjointref9_Row fu x7 (x8.Over.Box.length:Int)).bind fun (r9:Int)=>
   cond (r9 !=0)
    (some (.inr (.ret (.inr (.ret r9)))))
    (some (.inl (IntKind.wrap .i64 (v6+1)))))
  (some (.inr (.brk ())))
def adjointref11_Wrong_l2 (fu:Nat) (n1:SNest) (times2:List (List SRow)):Int→Option (Int⊕(Ex Unit Int)):=fun v4=>
 cond (decide (v4<(times2.length:Int)))
  ((idx times2 v4).bind fun x5=>
   cond (decide ((x5.length:Int)>8))
    (some (.inr (.ret 2)))
    (bindE (fun r=>r) (loopF (adjointref11_Wrong_l1 fu n1 v4 x5) fu 0:Option (Ex Unit (Int⊕(Ex Unit Int)))) fun (_:Unit)=>
    some (.inl (IntKind.wrap .i64 (v4+1)))))
  (some (.inr (.brk ())))
def adjointref11_Wrong (fu:Nat) (n1:SNest) (times2:List (List SRow)):Option (Int):=
 (adjointref10_Wrong fu n1).bind fun (r3:Int)=>
 cond (r3 !=0)
  (some r3)
  (cond ((times2.length:Int) !=(n1.Stmts.length:Int))
    (some 2)
    (bindE (fun r=>r) (loopF (adjointref11_Wrong_l2 fu n1 times2) fu 0:Option (Ex Unit Int)) fun (_:Unit)=>
    some 0))
def adjointref9_Box_l2 (self:(List Int)→Option (List (List Int))) (fu:Nat) (box1:List Int) (x11:List Int):Int×(List (List Int))→Option ((Int×(List (List Int)))⊕(List (List Int))):=fun (i12,m13)=>
 (idx box1 (IntKind.wrap .i64 ((box1.length:Int)-1))).bind fun x14=>
 cond (decide (i12<x14))
  ((chk (([]:List Int).length+x11.length≤maxLen∧(([]:List Int).length+x11.length)*8≤140737488355328)).bind fun _=>
   (chk ((([]:List Int)++x11).length+[i12].length≤maxLen∧((([]:List Int)++x11).length+[i12].length)*8≤140737488355328)).bind fun _=>
   (chk (m13.length+[(([]:List Int)++x11)++[i12]].length≤maxLen∧(m13.length+[(([]:List Int)++x11)++[i12]].length)*24≤140737488355328)).bind fun _=>
   some (.inl (IntKind.wrap .i64 (i12+1),m13++[(([]:List Int)++x11)++[i12]])))
  (some (.inr m13))
def adjointref9_Box_l3 (self:(List Int)→Option (List (List Int))) (fu:Nat) (box1:List Int) (r2:List (List Int)):Int×(List (List Int))→Option ((Int×(List (List Int)))⊕(List (List Int))):=fun (v3,m4)=>
 cond (decide (v3<(r2.length:Int)))
  ((idx r2 v3).bind fun x11=>
   (loopF (adjointref9_Box_l2 self fu box1 x11) fu (0,m4)).bind fun (m15:List (List Int))=>
   some (.inl (IntKind.wrap .i64 (v3+1),m15)))
  (some (.inr m4))
def adjointref9_Box_b (self:(List Int)→Option (List (List Int))) (fu:Nat) (box1:List Int):Option (List (List Int)):=
 cond ((box1.length:Int)==0)
  (some [([]:List Int)])
  ((chk ((0:Int)≤(IntKind.wrap .i64 ((box1.length:Int)-1))∧(IntKind.wrap .i64 ((box1.length:Int)-1))≤(box1.length:Int))).bind fun _=>
   (self (lpart box1 0 (IntKind.wrap .i64 ((box1.length:Int)-1)))).bind fun (r2:List (List Int))=>
   (loopF (adjointref9_Box_l3 self fu box1 r2) fu (0,([]:List (List Int)))).bind fun (m16:List (List Int))=>
   some m16)
def adjointref9_Box:Nat→(List Int)→Option (List (List Int))
 | 0=>fun _=>none
 | fu+1=>adjointref9_Box_b (adjointref9_Box fu) (fu+1)
def adjointref9_At_l1 (fu:Nat) (r1:SRow) (x2:List Int):Int×Int→Option ((Int×Int)⊕Int):=fun (n3,v4)=>
 cond (decide (v4<(r1.Coef.length:Int)))
  ((idx r1.Coef v4).bind fun x5=>
   (idx x2 v4).bind fun x6=>
   some (.inl (IntKind.wrap .i64 (n3+(IntKind.wrap .i64 (x5*x6))),IntKind.wrap .i64 (v4+1))))
  (some (.inr n3))
def adjointref9_At (fu:Nat) (r1:SRow) (x2:List Int):Option (Int):=
 (loopF (adjointref9_At_l1 fu r1 x2) fu (r1.Const,0)).bind fun (n7:Int)=>
 some n7
def adjointref9_All_l1 (fu:Nat) (p1:SPoints) (x5:List Int):Bool×Int→Option ((Bool×Int)⊕Bool):=fun (ok6,v7)=>
 cond (decide (v7<(p1.Rows.length:Int)))
  ((idx p1.Rows v7).bind fun x8=>
   (cond ok6 ((adjointref9_At fu x8 x5).bind fun (r9:Int)=>
    some (decide (r9≥0))) (some false)).bind fun (ok10:Bool)=>
   some (.inl (ok10,IntKind.wrap .i64 (v7+1))))
  (some (.inr ok6))
def adjointref9_All_l2 (fu:Nat) (p1:SPoints) (r2:List (List Int)):Int×(List (List Int))→Option ((Int×(List (List Int)))⊕(List (List Int))):=fun (v3,m4)=>
 cond (decide (v3<(r2.length:Int)))
  ((idx r2 v3).bind fun x5=>
   (loopF (adjointref9_All_l1 fu p1 x5) fu (true,0)).bind fun (ok11:Bool)=>
   (cond ok11
     ((chk (m4.length+[x5].length≤maxLen∧(m4.length+[x5].length)*24≤140737488355328)).bind fun _=>
     some (m4++[x5]))
     (some m4)).bind fun (m12:List (List Int))=>
   some (.inl (IntKind.wrap .i64 (v3+1),m12)))
  (some (.inr m4))
def adjointref9_All (fu:Nat) (p1:SPoints):Option (List (List Int)):=
 (adjointref9_Box fu p1.Box).bind fun (r2:List (List Int))=>
 (loopF (adjointref9_All_l2 fu p1 r2) fu (0,([]:List (List Int)))).bind fun (m13:List (List Int))=>
 some m13
def adjointref10_Spots_l1 (fu:Nat) (v2:Int) (r5:List (List Int)):Int×(List SSpot)→Option ((Int×(List SSpot))⊕(List SSpot)):=fun (v6,m7)=>
 cond (decide (v6<(r5.length:Int)))
  ((idx r5 v6).bind fun x8=>
   (chk (m7.length+[(⟨v2,x8⟩:SSpot)].length≤maxLen∧(m7.length+[(⟨v2,x8⟩:SSpot)].length)*32≤140737488355328)).bind fun _=>
   some (.inl (IntKind.wrap .i64 (v6+1),m7++[(⟨v2,x8⟩:SSpot)])))
  (some (.inr m7))
def adjointref10_Spots_l2 (fu:Nat) (n1:SNest):Int×(List SSpot)→Option ((Int×(List SSpot))⊕(List SSpot)):=fun (v2,m3)=>
 cond (decide (v2<(n1.Stmts.length:Int)))
  ((idx n1.Stmts v2).bind fun x4=>
   (adjointref9_All fu x4.Over).bind fun (r5:List (List Int))=>
   (loopF (adjointref10_Spots_l1 fu v2 r5) fu (0,m3)).bind fun (m9:List SSpot)=>
   some (.inl (IntKind.wrap .i64 (v2+1),m9)))
  (some (.inr m3))
def adjointref10_Spots (fu:Nat) (n1:SNest):Option (List SSpot):=
 (loopF (adjointref10_Spots_l2 fu n1) fu (0,([]:List SSpot))).bind fun (m10:List SSpot)=>
 some m10
def adjointref11_Right (fu:Nat) (n1:SNest) (times2:List (List SRow)):Option (Int):=
 (adjointref11_Wrong fu n1 times2).bind fun (r3:Int)=>
 cond (r3 !=0)
  (some r3)
  ((adjointref10_Spots fu n1).bind fun (r4:List SSpot)=>
   cond (decide ((r4.length:Int)>1024))
    (some 5)
    (some 0))
def adjointref11_Time_l1 (fu:Nat) (s2:SSpot) (x3:List SRow):Int×Int×Int×Int×Int×Int×Int×Int×Int→Option ((Int×Int×Int×Int×Int×Int×Int×Int×Int)⊕(Int×Int×Int×Int×Int×Int×Int×Int)):=fun (v4,m5,m6,m7,m8,m9,m10,m11,m12)=>
 cond (decide (v4<(x3.length:Int)))
  ((idx x3 v4).bind fun x13=>
   (adjointref9_At fu x13 s2.At).bind fun (r14:Int)=>
   (chk ((0:Int)≤v4∧v4<((8:Nat):Int))).bind fun _=>
   (chk (v4.toNat<[m5,m6,m7,m8,m9,m10,m11,m12].length)).bind fun _=>
   some (.inl (IntKind.wrap .i64 (v4+1),([m5,m6,m7,m8,m9,m10,m11,m12].set v4.toNat r14).getD 0 0,([m5,m6,m7,m8,m9,m10,m11,m12].set v4.toNat r14).getD 1 0,([m5,m6,m7,m8,m9,m10,m11,m12].set v4.toNat r14).getD 2 0,([m5,m6,m7,m8,m9,m10,m11,m12].set v4.toNat r14).getD 3 0,([m5,m6,m7,m8,m9,m10,m11,m12].set v4.toNat r14).getD 4 0,([m5,m6,m7,m8,m9,m10,m11,m12].set v4.toNat r14).getD 5 0,([m5,m6,m7,m8,m9,m10,m11,m12].set v4.toNat r14).getD 6 0,([m5,m6,m7,m8,m9,m10,m11,m12].set v4.toNat r14).getD 7 0)))
  (some (.inr (m5,m6,m7,m8,m9,m10,m11,m12)))
def adjointref11_Time (fu:Nat) (times1:List (List SRow)) (s2:SSpot):Option (SArr8):=
 (idx times1 s2.Stmt).bind fun x3=>
 (loopF (adjointref11_Time_l1 fu s2 x3) fu (0,0,0,0,0,0,0,0,0)).bind fun ((m15,m16,m17,m18,m19,m20,m21,m22):Int×Int×Int×Int×Int×Int×Int×Int)=>
 some (⟨m15,m16,m17,m18,m19,m20,m21,m22⟩:SArr8)
def adjointref11_Before_l1 (fu:Nat) (a1:SArr8) (b2:SArr8):Int→Option (Int⊕(Ex Unit Bool)):=fun v3=>
 cond (decide (v3<8))
  ((chk ((0:Int)≤v3∧v3<((8:Nat):Int))).bind fun _=>
   (chk (v3.toNat<[a1.a0,a1.a1,a1.a2,a1.a3,a1.a4,a1.a5,a1.a6,a1.a7].length)).bind fun _=>
   (chk ((0:Int)≤v3∧v3<((8:Nat):Int))).bind fun _=>
   (chk (v3.toNat<[b2.a0,b2.a1,b2.a2,b2.a3,b2.a4,b2.a5,b2.a6,b2.a7].length)).bind fun _=>
   cond (([a1.a0,a1.a1,a1.a2,a1.a3,a1.a4,a1.a5,a1.a6,a1.a7].getD v3.toNat 0) !=([b2.a0,b2.a1,b2.a2,b2.a3,b2.a4,b2.a5,b2.a6,b2.a7].getD v3.toNat 0))
    ((chk ((0:Int)≤v3∧v3<((8:Nat):Int))).bind fun _=>
    (chk (v3.toNat<[a1.a0,a1.a1,a1.a2,a1.a3,a1.a4,a1.a5,a1.a6,a1.a7].length)).bind fun _=>
    (chk ((0:Int)≤v3∧v3<((8:Nat):Int))).bind fun _=>
    (chk (v3.toNat<[b2.a0,b2.a1,b2.a2,b2.a3,b2.a4,b2.a5,b2.a6,b2.a7].length)).bind fun _=>
    some (.inr (.ret (decide (([a1.a0,a1.a1,a1.a2,a1.a3,a1.a4,a1.a5,a1.a6,a1.a7].getD v3.toNat 0)<([b2.a0,b2.a1,b2.a2,b2.a3,b2.a4,b2.a5,b2.a6,b2.a7].getD v3.toNat 0))))))
    (some (.inl (IntKind.wrap .i64 (v3+1)))))
  (some (.inr (.brk ())))
def adjointref11_Before (fu:Nat) (a1:SArr8) (b2:SArr8):Option (Bool):=
 bindE (fun r=>r) (loopF (adjointref11_Before_l1 fu a1 b2) fu 0:Option (Ex Unit Bool)) fun (_:Unit)=>
 some false
def adjointref10_Where (fu:Nat) (n1:SNest) (a2:SAccess) (x3:List Int):Option (Int):=
 (adjointref9_At fu a2.At x3).bind fun (r4:Int)=>
 (cond (decide (r4<0)) (some true) ((idx n1.Sizes a2.Array).bind fun x5=>
  some (decide (r4≥x5)))).bind fun (v6:Bool)=>
 cond v6
  (some (-1))
  (some r4)
def adjointref11_Clash_l1 (fu:Nat) (n1:SNest) (b3:SSpot) (m10:Int) (m21:List SAccess) (r22:Int):Int→Option (Int⊕(Ex Unit Bool)):=fun v27=>
 cond (decide (v27<(m21.length:Int)))
  ((idx m21 v27).bind fun x28=>
   (cond (x28.Array==m10) ((adjointref10_Where fu n1 x28 b3.At).bind fun (r29:Int)=>
    some (r29==r22)) (some false)).bind fun (v30:Bool)=>
   cond v30
    (some (.inr (.ret true)))
    (some (.inl (IntKind.wrap .i64 (v27+1)))))
  (some (.inr (.brk ())))
def adjointref11_Clash_l2 (fu:Nat) (n1:SNest) (a2:SSpot) (m13:List SAccess) (m18:Int) (r23:Int):Int→Option (Int⊕(Ex Unit Bool)):=fun v31=>
 cond (decide (v31<(m13.length:Int)))
  ((idx m13 v31).bind fun x32=>
   (cond (x32.Array==m18) ((adjointref10_Where fu n1 x32 a2.At).bind fun (r33:Int)=>
    some (r33==r23)) (some false)).bind fun (v34:Bool)=>
   cond v34
    (some (.inr (.ret true)))
    (some (.inl (IntKind.wrap .i64 (v31+1)))))
  (some (.inr (.brk ())))
def adjointref11_Clash (fu:Nat) (n1:SNest) (a2:SSpot) (b3:SSpot):Option (Bool):=
 ((idx n1.Stmts a2.Stmt).bind fun x4=>
  (idx n1.Stmts b3.Stmt).bind fun x5=>
  amb2 (some (x4.Over.Box,x4.Over.Rows,x4.Do,x4.Value,x4.Put.Array,x4.Put.At.Coef,x4.Put.At.Const,x4.Get,x5.Over.Box,x5.Over.Rows,x5.Do,x5.Value,x5.Put.Array,x5.Put.At.Coef,x5.Put.At.Const,x5.Get))).bind fun ((m6,m7,m8,m9,m10,m11,m12,m13,m14,m15,m16,m17,m18,m19,m20,m21):(List Int)×(List SRow)×Int×Int×Int×(List Int)×Int×(List SAccess)×(List Int)×(List SRow)×Int×Int×Int×(List Int)×Int×(List SAccess))=>
 (adjointref10_Where fu n1 (⟨m10,(⟨m11,m12⟩:SRow)⟩:SAccess) a2.At).bind fun (r22:Int)=>
 (adjointref10_Where fu n1 (⟨m18,(⟨m19,m20⟩:SRow)⟩:SAccess) b3.At).bind fun (r23:Int)=>
 (cond (decide (r22<0)) (some true) (some (decide (r23<0)))).bind fun (v24:Bool)=>
 cond v24
  (some false)
  ((cond (decide (m8≥9)) (some (decide (m16≥9))) (some false)).bind fun (adds25:Bool)=>
   (cond (m10==m18) (cond (r22==r23) (some (!adds25)) (some false)) (some false)).bind fun (v26:Bool)=>
   cond v26
    (some true)
    (bindE (fun r=>r) (loopF (adjointref11_Clash_l1 fu n1 b3 m10 m21 r22) fu 0:Option (Ex Unit Bool)) fun (_:Unit)=>
    bindE (fun r=>r) (loopF (adjointref11_Clash_l2 fu n1 a2 m13 m18 r23) fu 0:Option (Ex Unit Bool)) fun (_:Unit)=>
    some false))
def adjointref11_find_l1 (fu:Nat) (n1:SNest) (times2:List (List SRow)) (alike3:Bool) (r5:List SSpot) (v6:Int) (x12:SSpot):Int×Bool×Int×(List Int)×Int×(List Int)→Option ((Int×Bool×Int×(List Int)×Int×(List Int))⊕(Ex (Bool×Int×(List Int)×Int×(List Int)) ((Int×Bool×Int×(List Int)×Int×(List Int))⊕(Ex (Bool×Int×(List Int)×Int×(List Int)) (SFound×Int))))):=fun (v13,m14,m15,m16,m17,m18)=>
 cond (decide (v13<((lpart r5 0 v6).length:Int)))
  ((idx (lpart r5 0 v6) v13).bind fun x19=>
   (amb ((adjointref11_Time fu times2 x19).bind fun (r20:SArr8)=>
    amb ((adjointref11_Time fu times2 x12).bind fun (r21:SArr8)=>
    amb2 (some (r20.a0,r20.a1,r20.a2,r20.a3,r20.a4,r20.a5,r20.a6,r20.a7,r21.a0,r21.a1,r21.a2,r21.a3,r21.a4,r21.a5,r21.a6,r21.a7))) (amb (amb2 ((adjointref11_Time fu times2 x12).bind fun (r21:SArr8)=>
    some (r20.a0,r20.a1,r20.a2,r20.a3,r20.a4,r20.a5,r20.a6,r20.a7,r21.a0,r21.a1,r21.a2,r21.a3,r21.a4,r21.a5,r21.a6,r21.a7))) (amb2 ((adjointref11_Time fu times2 x12).bind fun (r21:SArr8)=>
    some (r20.a0,r20.a1,r20.a2,r20.a3,r20.a4,r20.a5,r20.a6,r20.a7,r21.a0,r21.a1,r21.a2,r21.a3,r21.a4,r21.a5,r21.a6,r21.a7))))) (amb (amb ((adjointref11_Time fu times2 x19).bind fun (r20:SArr8)=>
    amb2 ((adjointref11_Time fu times2 x12).bind fun (r21:SArr8)=>
    some (r20.a0,r20.a1,r20.a2,r20.a3,r20.a4,r20.a5,r20.a6,r20.a7,r21.a0,r21.a1,r21.a2,r21.a3,r21.a4,r21.a5,r21.a6,r21.a7))) ((adjointref11_Time fu times2 x19).bind fun (r20:SArr8)=>
    (adjointref11_Time fu times2 x12).bind fun (r21:SArr8)=>
    some (r20.a0,r20.a1,r20.a2,r20.a3,r20.a4,r20.a5,r20.a6,r20.a7,r21.a0,r21.a1,r21.a2,r21.a3,r21.a4,r21.a5,r21.a6,r21.a7))) (amb ((adjointref11_Time fu times2 x19).bind fun (r20:SArr8)=>
    amb2 ((adjointref11_Time fu times2 x12).bind fun (r21:SArr8)=>
    some (r20.a0,r20.a1,r20.a2,r20.a3,r20.a4,r20.a5,r20.a6,r20.a7,r21.a0,r21.a1,r21.a2,r21.a3,r21.a4,r21.a5,r21.a6,r21.a7))) ((adjointref11_Time fu times2 x19).bind fun (r20:SArr8)=>
    (adjointref11_Time fu times2 x12).bind fun (r21:SArr8)=>
    some (r20.a0,r20.a1,r20.a2,r20.a3,r20.a4,r20.a5,r20.a6,r20.a7,r21.a0,r21.a1,r21.a2,r21.a3,r21.a4,r21.a5,r21.a6,r21.a7))))).bind fun ((m22,m23,m24,m25,m26,m27,m28,m29,m30,m31,m32,m33,m34,m35,m36,m37):Int×Int×Int×Int×Int×Int×Int×Int×Int×Int×Int×Int×Int×Int×Int×Int)=>
   (cond alike3 (cond (eqI [m22,m23,m24,m25,m26,m27,m28,m29] [m30,m31,m32,m33,m34,m35,m36,m37]) ((adjointref11_Clash fu n1 x19 x12).bind fun (r40:Bool)=>
    some r40) (cond (!alike3) ((adjointref11_Before fu (⟨m30,m31,m32,m33,m34,m35,m36,m37⟩:SArr8) (⟨m22,m23,m24,m25,m26,m27,m28,m29⟩:SArr8)).bind fun (r38:Bool)=>
    cond r38 ((adjointref11_Clash fu n1 x19 x12).bind fun (r39:Bool)=>
    some r39) (some false)) (some false))) (cond (!alike3) ((adjointref11_Before fu (⟨m30,m31,m32,m33,m34,m35,m36,m37⟩:SArr8) (⟨m22,m23,m24,m25,m26,m27,m28,m29⟩:SArr8)).bind fun (r41:Bool)=>
    cond r41 ((adjointref11_Clash fu n1 x19 x12).bind fun (r42:Bool)=>
    some r42) (some false)) (some false))).bind fun (v43:Bool)=>
   cond v43
    (some (.inr (.ret (.inr (.ret ((⟨true,(⟨x19.Stmt,x19.At⟩:SSpot),x12⟩:SFound),0))))))
    (some (.inl (IntKind.wrap .i64 (v13+1),m14,m15,m16,m17,m18))))
  (some (.inr (.brk (m14,m15,m16,m17,m18))))
def adjointref11_find_l2 (fu:Nat) (n1:SNest) (times2:List (List SRow)) (alike3:Bool) (r5:List SSpot):Int×Bool×Int×(List Int)×Int×(List Int)→Option ((Int×Bool×Int×(List Int)×Int×(List Int))⊕(Ex (Bool×Int×(List Int)×Int×(List Int)) (SFound×Int))):=fun (v6,m7,m8,m9,m10,m11)=>
 cond (decide (v6<(r5.length:Int)))
  ((idx r5 v6).bind fun x12=>
   (chk ((0:Int)≤v6∧v6≤(r5.length:Int))).bind fun _=>
   bindE (fun r=>r) (loopF (adjointref11_find_l1 fu n1 times2 alike3 r5 v6 x12) fu (0,m7,m8,m9,m10,m11):Option (Ex (Bool×Int×(List Int)×Int×(List Int)) ((Int×Bool×Int×(List Int)×Int×(List Int))⊕(Ex (Bool×Int×(List Int)×Int×(List Int)) (SFound×Int))))) fun ((m44,m45,m46,m47,m48):Bool×Int×(List Int)×Int×(List Int))=>
   some (.inl (IntKind.wrap .i64 (v6+1),m44,m45,m46,m47,m48)))
  (some (.inr (.brk (m7,m8,m9,m10,m11))))
def adjointref11_find (fu:Nat) (n1:SNest) (times2:List (List SRow)) (alike3:Bool):Option (SFound×Int):=
 (adjointref11_Right fu n1 times2).bind fun (r4:Int)=>
 cond (r4 !=0)
  (some ((⟨false,(⟨0,([]:List Int)⟩:SSpot),(⟨0,([]:List Int)⟩:SSpot)⟩:SFound),r4))
  ((adjointref10_Spots fu n1).bind fun (r5:List SSpot)=>
   bindE (fun r=>r) (loopF (adjointref11_find_l2 fu n1 times2 alike3 r5) fu (0,false,0,([]:List Int),0,([]:List Int)):Option (Ex (Bool×Int×(List Int)×Int×(List Int)) (SFound×Int))) fun ((m49,m50,m51,m52,m53):Bool×Int×(List Int)×Int×(List Int))=>
   some ((⟨false,(⟨0,([]:List Int)⟩:SSpot),(⟨0,([]:List Int)⟩:SSpot)⟩:SFound),0))
def adjointref11_Legal (fu:Nat) (n1:SNest) (times2:List (List SRow)):Option (SFound×Int):=
 (adjointref11_find fu n1 times2 false).bind fun ((r3,r4):SFound×Int)=>
 some ((⟨r3.Any,(⟨r3.A.Stmt,r3.A.At⟩:SSpot),r3.B⟩:SFound),r4)
def adjointref2_SameList_l1 (fu:Nat) (a1:List Int) (b2:List Int):Int→Option (Int⊕(Ex Unit Bool)):=fun v3=>
 cond (decide (v3<(a1.length:Int)))
  ((idx a1 v3).bind fun x4=>
   (idx b2 v3).bind fun x5=>
   cond (x4 !=x5)
    (some (.inr (.ret false)))
    (some (.inl (IntKind.wrap .i64 (v3+1)))))
  (some (.inr (.brk ())))
def adjointref2_SameList (fu:Nat) (a1:List Int) (b2:List Int):Option (Bool):=
 cond ((a1.length:Int) !=(b2.length:Int))
  (some false)
  (bindE (fun r=>r) (loopF (adjointref2_SameList_l1 fu a1 b2) fu 0:Option (Ex Unit Bool)) fun (_:Unit)=>
   some true)
def adjointlaw11_sameSpot (fu:Nat) (a1:SSpot) (b2:SSpot):Option (Bool):=
 (cond (a1.Stmt==b2.Stmt) ((adjointref2_SameList fu a1.At b2.At).bind fun (r3:Bool)=>
  some r3) (some false)).bind fun (v4:Bool)=>
 some v4
def adjointlaw11_sameFound (fu:Nat) (a1:SFound) (b2:SFound):Option (Bool):=
 (cond (a1.Any==b2.Any) ((adjointlaw11_sameSpot fu a1.A b2.A).bind fun (r3:Bool)=>
  cond r3 ((adjointlaw11_sameSpot fu a1.B b2.B).bind fun (r4:Bool)=>
  some r4) (some false)) (some false)).bind fun (v5:Bool)=>
 some v5
def slices_Equal_l1 (fu:Nat) (s1:List Int) (s2:List Int):Int→Option (Int⊕(Ex Unit Bool)):=fun v3=>
 cond (decide (v3<(s1.length:Int)))
  ((idx s1 v3).bind fun x4=>
   (idx s2 v3).bind fun x5=>
   cond (x4 !=x5)
    (some (.inr (.ret false)))
    (some (.inl (IntKind.wrap .i64 (v3+1)))))
  (some (.inr (.brk ())))
def slices_Equal (fu:Nat) (s1:List Int) (s2:List Int):Option (Bool):=
 cond ((s1.length:Int) !=(s2.length:Int))
  (some false)
  (bindE (fun r=>r) (loopF (slices_Equal_l1 fu s1 s2) fu 0:Option (Ex Unit Bool)) fun (_:Unit)=>
   some true)
def order_Free_1 (fu:Nat) (a1:Sspot) (b2:Sspot):Option (Bool):=
 (slices_Equal fu a1.time b2.time).bind fun (r3:Bool)=>
 some r3
def order_search_1_4 (fu:Nat):=Gn.see (order_Free_1 fu) fu
def order_pairs_2_7 (fu:Nat):=Gn.two (order_Free_1 fu) fu
def order_pairs_2_8 (fu:Nat):=Gn.one (order_Free_1 fu) fu
def order_pairs_5 (fu:Nat):=Gn.pairs (order_Free_1 fu) fu
def order_search_2 (fu:Nat):=Gn.search (order_Free_1 fu) fu
def order_Free (fu:Nat) (n1:SNest) (times2:List (List SRow)):Option (SFound×Int):=
 (order_search_2 fu n1 times2).bind fun ((r3,r4):SFound×Int)=>
 some ((⟨r3.Any,(⟨r3.A.Stmt,r3.A.At⟩:SSpot),r3.B⟩:SFound),r4)
def adjointref11_Free (fu:Nat) (n1:SNest) (times2:List (List SRow)):Option (SFound×Int):=
 (adjointref11_find fu n1 times2 true).bind fun ((r3,r4):SFound×Int)=>
 some ((⟨r3.Any,(⟨r3.A.Stmt,r3.A.At⟩:SSpot),r3.B⟩:SFound),r4)
def adjointlaw11_OrderFinds (fu:Nat) (n1:SNest) (times2:List (List SRow)):Option (Bool):=
 (order_Legal fu n1 times2).bind fun ((r3,r4):SFound×Int)=>
 (adjointref11_Legal fu n1 times2).bind fun ((r5,r6):SFound×Int)=>
 ((adjointlaw11_sameFound fu (⟨r3.Any,(⟨r3.A.Stmt,r3.A.At⟩:SSpot),r3.B⟩:SFound) (⟨r5.Any,(⟨r5.A.Stmt,r5.A.At⟩:SSpot),r5.B⟩:SFound)).bind fun (r7:Bool)=>
  cond (!r7) (some true) (cond (r4 !=r6) (some true) (amb (amb2 ((order_Wrong fu n1 times2).bind fun (r8:Int)=>
  (adjointref11_Wrong fu n1 times2).bind fun (r9:Int)=>
  some (r8 !=r9))) ((order_Wrong fu n1 times2).bind fun (r8:Int)=>
  (adjointref11_Wrong fu n1 times2).bind fun (r9:Int)=>
  some (r8 !=r9))))).bind fun (v10:Bool)=>
 cond v10
  (some false)
  ((order_Free fu n1 times2).bind fun ((r11,r12):SFound×Int)=>
   (adjointref11_Free fu n1 times2).bind fun ((r13,r14):SFound×Int)=>
   ((adjointlaw11_sameFound fu (⟨r11.Any,(⟨r11.A.Stmt,r11.A.At⟩:SSpot),r11.B⟩:SFound) (⟨r13.Any,(⟨r13.A.Stmt,r13.A.At⟩:SSpot),r13.B⟩:SFound)).bind fun (r15:Bool)=>
    cond r15 (some (r12==r14)) (some false)).bind fun (v16:Bool)=>
   some v16)
end F
end
end Go.DN
