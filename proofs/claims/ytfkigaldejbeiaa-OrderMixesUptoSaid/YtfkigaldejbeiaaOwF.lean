/-
  The functions, as Lean functions dz data.
-/
import Derived.Test.YtfkigaldejbeiaaOwS
set_option maxRecDepth 20000
set_option linter.unusedVariables false
set_option linter.unusedSectionVars false
set_option linter.unusedSimpArgs false
namespace Go.DN
open Go.AM
noncomputable section
namespace F
def mV (fu:Nat) (s1:Int):Option (Bool):=
 (cond (decide (s1<0)) (some true) (some (decide (s1>65536)))).bind fun (v2:Bool)=>
 some v2
def qp (fu:Nat) (s1:List Int):Int→Option (Int⊕(Ex Unit Int)):=fun v2=>
 cond (decide (v2<(s1.length:Int)))
  ((idx s1 v2).bind fun x3=>
   (mV fu x3).bind fun (r4:Bool)=>
   cond r4
    (some (.inr (.ret v2)))
    (some (.inl (IntKind.wrap .i64 (v2+1)))))
  (some (.inr (.dS ())))
def lD (fu:Nat) (s1:List Int):Option (Int):=
 eS (fun r=>r) (aB (qp fu s1) fu 0:Option (Ex Unit Int)) fun (_:Unit)=>
 some (-1)
def iT (fu:Nat) (s1:List Int):Option (Bool):=
 (lD fu s1).bind fun (r2:Int)=>
 some (decide (r2≥0))
def la (fu:Nat) (n1:Int):Option (Bool):=
 (cond (decide (n1<(-1048576))) (some true) (some (decide (n1>1048576)))).bind fun (v2:Bool)=>
 some v2
def o9 (fu:Nat) (s1:List Int):Int→Option (Int⊕(Ex Unit Int)):=fun v2=>
 cond (decide (v2<(s1.length:Int)))
  ((idx s1 v2).bind fun x3=>
   (la fu x3).bind fun (r4:Bool)=>
   cond r4
    (some (.inr (.ret v2)))
    (some (.inl (IntKind.wrap .i64 (v2+1)))))
  (some (.inr (.dS ())))
def kE (fu:Nat) (s1:List Int):Option (Int):=
 eS (fun r=>r) (aB (o9 fu s1) fu 0:Option (Ex Unit Int)) fun (_:Unit)=>
 some (-1)
def ib (fu:Nat) (s1:List Int):Option (Bool):=
 (kE fu s1).bind fun (r2:Int)=>
 some (decide (r2≥0))
def nA (fu:Nat) (r1:aT) (vars2:Int):Option (Int):=
 cond ((r1.cZ.length:Int) !=vars2)
  (some 6)
  (((la fu r1.Const).bind fun (r3:Bool)=>
    cond r3 (some true) ((ib fu r1.cZ).bind fun (r4:Bool)=>
    some r4)).bind fun (v5:Bool)=>
   cond v5
    (some 4)
    (some 0))
def mB (fu:Nat) (p1:bp):Int→Option (Int⊕(Ex Unit Int)):=fun v2=>
 cond (decide (v2<(p1.ba.length:Int)))
  ((idx p1.ba v2).bind fun x3=>
   (cond (decide (x3<0)) (some true) (some (decide (x3>4096)))).bind fun (v4:Bool)=>
   cond v4
    (some (.inr (.ret 4)))
    (some (.inl (IntKind.wrap .i64 (v2+1)))))
  (some (.inr (.dS ())))
def mA (fu:Nat) (p1:bp):Int×Int→Option ((Int×Int)⊕Int):=fun (n5,v6)=>
 cond (decide (v6<(p1.ba.length:Int)))
  ((idx p1.ba v6).bind fun x7=>
   some (.inl (IntKind.wrap .i64 (n5*x7),IntKind.wrap .i64 (v6+1))))
  (some (.inr n5))
def mz (fu:Nat) (p1:bp):Int→Option (Int⊕(Ex Unit Int)):=fun v9=>
 cond (decide (v9<(p1.Rows.length:Int)))
  ((idx p1.Rows v9).bind fun x10=>
   (nA fu x10 (p1.ba.length:Int)).bind fun (r11:Int)=>
   cond (r11 !=0)
    (some (.inr (.ret r11)))
    (some (.inl (IntKind.wrap .i64 (v9+1)))))
  (some (.inr (.dS ())))
def je (fu:Nat) (p1:bp):Option (Int):=
 cond (decide ((p1.ba.length:Int)>4))
  (some 3)
  (eS (fun r=>r) (aB (mB fu p1) fu 0:Option (Ex Unit Int)) fun (_:Unit)=>
   (aB (mA fu p1) fu (1,0)).bind fun (n8:Int)=>
   cond (decide (n8>4096))
    (some 5)
    (cond (decide ((p1.Rows.length:Int)>8))
     (some 2)
     (eS (fun r=>r) (aB (mz fu p1) fu 0:Option (Ex Unit Int)) fun (_:Unit)=>
      some 0)))
def uH (fu:Nat) (do1:Int):Option (Int):=
 cond (do1==1)
  (some 0)
  ((cond (do1==2)
     (some (do1==2))
     (some (do1==9))).bind fun (v2:Bool)=>
   cond v2
    (some 1)
    ((cond (do1==3)
      (some (do1==3))
      ((cond (do1==4)
         (some (do1==4))
         ((cond (do1==5)
           (some (do1==5))
           ((cond (do1==6)
              (some (do1==6))
              ((cond (do1==7)
                (some (do1==7))
                (some (do1==10))).bind fun (v3:Bool)=>
              some v3)).bind fun (v4:Bool)=>
            some v4)).bind fun (v5:Bool)=>
         some v5)).bind fun (v6:Bool)=>
       some v6)).bind fun (v7:Bool)=>
    cond v7
     (some 2)
     (cond (do1==8)
       (some 3)
       (some (-1)))))
def kR (fu:Nat) (n1:aO) (s2:dh):Int→Option (Int⊕(Ex Unit Int)):=fun v5=>
 cond (decide (v5<(([s2.cf]++s2.c9).length:Int)))
  ((idx ([s2.cf]++s2.c9) v5).bind fun x6=>
   (cond (decide (x6.Array<0)) (some true) (some (decide (x6.Array≥(n1.cz.length:Int))))).bind fun (v7:Bool)=>
   cond v7
    (some (.inr (.ret 4)))
    ((nA fu x6.At (s2.bI.ba.length:Int)).bind fun (r8:Int)=>
    cond (r8 !=0)
     (some (.inr (.ret r8)))
     (some (.inl (IntKind.wrap .i64 (v5+1))))))
  (some (.inr (.dS ())))
def nE (fu:Nat) (n1:aO) (s2:dh):Option (Int):=
 (je fu s2.bI).bind fun (r3:Int)=>
 cond (r3 !=0)
  (some r3)
  ((uH fu s2.Do).bind fun (r4:Int)=>
   cond (decide (r4<0))
    (some 1)
    (cond (r4 !=(s2.c9.length:Int))
     (some 2)
     ((bq ([s2.cf].length+s2.c9.length≤maxLen∧([s2.cf].length+s2.c9.length)*40≤140737488355328)).bind fun _=>
      eS (fun r=>r) (aB (kR fu n1 s2) fu 0:Option (Ex Unit Int)) fun (_:Unit)=>
      some 0)))
def oC (fu:Nat) (n1:aO):Int→Option (Int⊕(Ex Unit Int)):=fun v3=>
 cond (decide (v3<(n1.cd.length:Int)))
  ((idx n1.cd v3).bind fun x4=>
   (nE fu n1 (⟨(⟨x4.bI.ba,x4.bI.Rows⟩:bp),x4.Do,x4.Value,(⟨x4.cf.Array,(⟨x4.cf.At.cZ,x4.cf.At.Const⟩:aT)⟩:bF),x4.c9⟩:dh)).bind fun (r5:Int)=>
   cond (r5 !=0)
    (some (.inr (.ret r5)))
    (some (.inl (IntKind.wrap .i64 (v3+1)))))
  (some (.inr (.dS ())))
def pN (fu:Nat) (n1:aO):Option (Int):=
 cond (decide ((n1.cd.length:Int)>256))
  (some 2)
  ((iT fu n1.cz).bind fun (r2:Bool)=>
   cond r2
    (some 4)
    (eS (fun r=>r) (aB (oC fu n1) fu 0:Option (Ex Unit Int)) fun (_:Unit)=>
    some 0))
def qH (fu:Nat) (n1:aO) (v4:Int) (x5:List aT):Int→Option (Int⊕(Ex Unit (Int⊕(Ex Unit Int)))):=fun v6=>
 cond (decide (v6<(x5.length:Int)))
  ((idx x5 v6).bind fun x7=>
   (idx n1.cd v4).bind fun x8=>
   (nA fu x7 (x8.bI.ba.length:Int)).bind fun (r9:Int)=>
   cond (r9 !=0)
    (some (.inr (.ret (.inr (.ret r9)))))
    (some (.inl (IntKind.wrap .i64 (v6+1)))))
  (some (.inr (.dS ())))
def nC (fu:Nat) (n1:aO) (times2:List (List aT)):Int→Option (Int⊕(Ex Unit Int)):=fun v4=>
 cond (decide (v4<(times2.length:Int)))
  ((idx times2 v4).bind fun x5=>
   cond (decide ((x5.length:Int)>8))
    (some (.inr (.ret 2)))
    (eS (fun r=>r) (aB (qH fu n1 v4 x5) fu 0:Option (Ex Unit (Int⊕(Ex Unit Int)))) fun (_:Unit)=>
    some (.inl (IntKind.wrap .i64 (v4+1)))))
  (some (.inr (.dS ())))
def om (fu:Nat) (n1:aO) (times2:List (List aT)):Option (Int):=
 (pN fu n1).bind fun (r3:Int)=>
 cond (r3 !=0)
  (some r3)
  (cond ((times2.length:Int) !=(n1.cd.length:Int))
    (some 2)
    (eS (fun r=>r) (aB (nC fu n1 times2) fu 0:Option (Ex Unit Int)) fun (_:Unit)=>
    some 0))
def pG (fu:Nat) (p1:bp):Option ((List Int)×(List aT)):=
 some (p1.ba,p1.Rows)
def jd (fu:Nat) (p1:bp) (x2:List Int) (k3:Int) (x5:aT):Int×Int→Option ((Int×Int)⊕Int):=fun (n6,v7)=>
 cond (decide (v7<(x5.cZ.length:Int)))
  ((idx x5.cZ v7).bind fun x8=>
   (cond (decide (v7<k3))
     ((idx x2 v7).bind fun x9=>
     some (IntKind.wrap .i64 (n6+(IntKind.wrap .i64 (x8*x9)))))
     ((cond (decide (x8>0))
       ((idx p1.ba v7).bind fun x10=>
        some (IntKind.wrap .i64 (n6+(IntKind.wrap .i64 (x8*(IntKind.wrap .i64 (x10-1)))))))
       (some n6)).bind fun (n11:Int)=>
     some n11)).bind fun (n12:Int)=>
   some (.inl (n12,IntKind.wrap .i64 (v7+1))))
  (some (.inr n6))
def kH (fu:Nat) (p1:bp) (x2:List Int) (k3:Int):Int→Option (Int⊕(Ex Unit Bool)):=fun v4=>
 cond (decide (v4<(p1.Rows.length:Int)))
  ((idx p1.Rows v4).bind fun x5=>
   (aB (jd fu p1 x2 k3 x5) fu (x5.Const,0)).bind fun (n13:Int)=>
   cond (decide (n13<0))
    (some (.inr (.ret true)))
    (some (.inl (IntKind.wrap .i64 (v4+1)))))
  (some (.inr (.dS ())))
def kI (fu:Nat) (p1:bp) (x2:List Int) (k3:Int):Option (Bool):=
 eS (fun r=>r) (aB (kH fu p1 x2 k3) fu 0:Option (Ex Unit Bool)) fun (_:Unit)=>
 some false
def kZ (fu:Nat) (s1:List Int):Option (List Int):=
 si (s1.length:Int) (some ([]:List Int)) ((bq (([]:List Int).length+s1.length≤maxLen∧(([]:List Int).length+s1.length)*8≤140737488355328)).bind fun _=>
 some (([]:List Int)++s1))
def pF (fu:Nat) (r1:aT) (x2:List Int):Int×Int→Option ((Int×Int)⊕Int):=fun (n3,v4)=>
 cond (decide (v4<(r1.cZ.length:Int)))
  ((idx r1.cZ v4).bind fun x5=>
   (idx x2 v4).bind fun x6=>
   some (.inl (IntKind.wrap .i64 (n3+(IntKind.wrap .i64 (x5*x6))),IntKind.wrap .i64 (v4+1))))
  (some (.inr n3))
def pf (fu:Nat) (r1:aT) (x2:List Int):Option (Int):=
 (aB (pF fu r1 x2) fu (r1.Const,0)).bind fun (n7:Int)=>
 some n7
def jf (fu:Nat) (v1:List Int) (x8:List aT):Int×(List Int)→Option ((Int×(List Int))⊕(List Int)):=fun (v9,m10)=>
 cond (decide (v9<(x8.length:Int)))
  ((idx x8 v9).bind fun x11=>
   (pf fu x11 v1).bind fun (r12:Int)=>
   (idx m10 v9).bind fun x13=>
   some (.inl (IntKind.wrap .i64 (v9+1),m10.set v9.toNat r12)))
  (some (.inr m10))
def mC (fu:Nat) (v1:List Int) (m2:List (List aT)) (m3:Int) (m4:Int) (m5:Int) (m6:List af) (m7:List af):Option (Int×(List (List aT))×Int×Int×Int×(List af)×(List af)):=
 cond ((m7.length:Int)==1024)
  (some (2,m2,5,m4,m5,([]:List af),m7))
  ((bq ((0:Int)≤m4∧m4≤m4∧((8:Nat):Int)*m4≤281474976710656∧m4≤9223372036854775807)).bind fun _=>
   (idx m2 m5).bind fun x8=>
   (aB (jf fu v1 x8) fu (0,List.replicate (Int.toNat m4) (0:Int))).bind fun (m14:List Int)=>
   (bq (m7.length+[(⟨(⟨m5,v1⟩:bD),(m7.length:Int),m14⟩:af)].length≤maxLen∧(m7.length+[(⟨(⟨m5,v1⟩:bD),(m7.length:Int),m14⟩:af)].length)*64≤140737488355328)).bind fun _=>
   some (0,m2,m3,m4,m5,m6,m7++[(⟨(⟨m5,v1⟩:bD),(m7.length:Int),m14⟩:af)]))
def lJ (self:bp→Int→(List Int)→Int→(List (List aT))→Int→Int→Int→(List af)→(List af)→Option (Bool×(List Int)×Int×(List (List aT))×Int×Int×Int×(List af)×(List af))) (fu:Nat) (p1:bp) (k2:Int):(List Int)×Int×(List (List aT))×Int×Int×Int×(List af)×(List af)→Option (((List Int)×Int×(List (List aT))×Int×Int×Int×(List af)×(List af))⊕(Ex ((List Int)×Int×(List (List aT))×Int×Int×Int×(List af)×(List af)) (Bool×(List Int)×Int×(List (List aT))×Int×Int×Int×(List af)×(List af)))):=fun (m21,m22,m23,m24,m25,m26,m27,m28)=>
 (idx m21 k2).bind fun x42=>
 (idx p1.ba k2).bind fun x43=>
 cond (decide (x42<x43))
  ((self p1 (IntKind.wrap .i64 (k2+1)) m21 m22 m23 m24 m25 m26 m27 m28).bind fun ((r44,r45,r46,r47,r48,r49,r50,r51,r52):Bool×(List Int)×Int×(List (List aT))×Int×Int×Int×(List af)×(List af))=>
   bif Nat.beq (List.length r45) (List.length m21) then
   cond (!r44)
    (some (.inr (.ret (false,r45,r46,r47,r48,r49,r50,r51,r52))))
    ((idx r45 k2).bind fun x53=>
    (idx r45 k2).bind fun x54=>
    some (.inl (r45.set k2.toNat (IntKind.wrap .i64 (x53+1)),r46,r47,r48,r49,r50,r51,r52)))
   else none)
  (some (.inr (.dS (m21,m22,m23,m24,m25,m26,m27,m28))))
def kG (self:bp→Int→(List Int)→Int→(List (List aT))→Int→Int→Int→(List af)→(List af)→Option (Bool×(List Int)×Int×(List (List aT))×Int×Int×Int×(List af)×(List af))) (fu:Nat) (p1:bp) (k2:Int) (m3:List Int) (m4:Int) (m5:List (List aT)) (m6:Int) (m7:Int) (m8:Int) (m9:List af) (m10:List af):Option (Bool×(List Int)×Int×(List (List aT))×Int×Int×Int×(List af)×(List af)):=
 (kI fu p1 m3 k2).bind fun (r11:Bool)=>
 cond r11
  (some (true,m3,m4,m5,m6,m7,m8,m9,m10))
  (cond (k2==(p1.ba.length:Int))
    ((kZ fu m3).bind fun (r12:List Int)=>
    (bq (m4=0)).bind fun _=>
    (mC fu r12 m5 m6 m7 m8 m9 m10).bind fun ((r13,r14,r15,r16,r17,r18,r19):Int×(List (List aT))×Int×Int×Int×(List af)×(List af))=>
    cond (r13==0)
     (some (true,m3,0,r14,r15,r16,r17,r18,r19))
     (some (false,m3,r13,r14,r15,r16,r17,r18,r19)))
    ((idx m3 k2).bind fun x20=>
    eS (fun r=>r) (aB (lJ self fu p1 k2) fu (m3.set k2.toNat 0,m4,m5,m6,m7,m8,m9,m10):Option (Ex ((List Int)×Int×(List (List aT))×Int×Int×Int×(List af)×(List af)) (Bool×(List Int)×Int×(List (List aT))×Int×Int×Int×(List af)×(List af)))) fun ((m55,m56,m57,m58,m59,m60,m61,m62):(List Int)×Int×(List (List aT))×Int×Int×Int×(List af)×(List af))=>
    some (true,m55,m56,m57,m58,m59,m60,m61,m62)))
def gT:Nat→bp→Int→(List Int)→Int→(List (List aT))→Int→Int→Int→(List af)→(List af)→Option (Bool×(List Int)×Int×(List (List aT))×Int×Int×Int×(List af)×(List af))
 | 0=>fun _ _ _ _ _ _ _ _ _ _=>none
 | fu+1=>kG (gT fu) (fu+1)
def jY (fu:Nat) (m1:Int) (m2:List Int) (m3:List aT) (m4:List (List aT)) (m5:Int) (m6:Int) (m7:Int) (m8:List af) (m9:List af):Option (Int×(List Int)×(List aT)×(List (List aT))×Int×Int×Int×(List af)×(List af)):=
 (je fu (⟨m2,m3⟩:bp)).bind fun (r10:Int)=>
 (cond (r10==0)
   ((bq ((0:Int)≤(m2.length:Int)∧(m2.length:Int)≤(m2.length:Int)∧((8:Nat):Int)*(m2.length:Int)≤281474976710656∧(m2.length:Int)≤9223372036854775807)).bind fun _=>
    (gT fu (⟨m2,m3⟩:bp) 0 (List.replicate (Int.toNat (m2.length:Int)) (0:Int)) m1 m4 m5 m6 m7 m8 m9).bind fun ((r11,r12,r13,r14,r15,r16,r17,r18,r19):Bool×(List Int)×Int×(List (List aT))×Int×Int×Int×(List af)×(List af))=>
    bif Nat.beq (List.length r12) (List.length (List.replicate (Int.toNat (m2.length:Int)) (0:Int))) then
    some (r13,r14,r15,r16,r17,r18,r19)
    else none)
   (some (m1,m4,m5,m6,m7,m8,m9))).bind fun ((m20,m21,m22,m23,m24,m25,m26):Int×(List (List aT))×Int×Int×Int×(List af)×(List af))=>
 some (m20,m2,m3,m21,m22,m23,m24,m25,m26)
def jU (fu:Nat) (times2:List (List aT)):Int×Int→Option ((Int×Int)⊕Int):=fun (v4,m5)=>
 cond (decide (v4<(times2.length:Int)))
  ((idx times2 v4).bind fun x6=>
   some (.inl (IntKind.wrap .i64 (v4+1),(if (x6.length:Int)>m5 then(x6.length:Int) else m5))))
  (some (.inr m5))
def gk (fu:Nat) (n1:aO):Int×(List (List aT))×Int×Int×(List af)×(List af)→Option ((Int×(List (List aT))×Int×Int×(List af)×(List af))⊕(Ex ((List (List aT))×Int×Int×(List af)×(List af)) (Int×(List af)))):=fun (v8,m9,m10,m11,m12,m13)=>
 cond (decide (v8<(n1.cd.length:Int)))
  ((idx n1.cd v8).bind fun x14=>
   (pG fu x14.bI).bind fun ((r15,r16):(List Int)×(List aT))=>
   (jY fu 0 r15 r16 m9 m10 m11 v8 m12 m13).bind fun ((r17,r18,r19,r20,r21,r22,r23,r24,r25):Int×(List Int)×(List aT)×(List (List aT))×Int×Int×Int×(List af)×(List af))=>
   cond (r17==0)
    (some (.inl (IntKind.wrap .i64 (v8+1),r20,r21,r22,r24,r25)))
    (cond (r17==1)
     (none)
     (some (.inr (.ret (r21,r24))))))
  (some (.inr (.dS (m9,m10,m11,m12,m13))))
def iw (fu:Nat) (n1:aO) (times2:List (List aT)):Option (Int×(List af)):=
 (om fu n1 times2).bind fun (r3:Int)=>
 cond (r3 !=0)
  (some (r3,([]:List af)))
  ((aB (jU fu times2) fu (0,0)).bind fun (m7:Int)=>
   eS (fun r=>r) (aB (gk fu n1) fu (0,times2,0,m7,([]:List af),([]:List af)):Option (Ex ((List (List aT))×Int×Int×(List af)×(List af)) (Int×(List af)))) fun ((m26,m27,m28,m29,m30):(List (List aT))×Int×Int×(List af)×(List af))=>
   some (0,m30))
def ny (fu:Nat) (s1:List Int):Option (List Int):=
 si (s1.length:Int) (some ([]:List Int)) ((bq (([]:List Int).length+s1.length≤maxLen∧(([]:List Int).length+s1.length)*8≤140737488355328)).bind fun _=>
 some (([]:List Int)++s1))
def lf (fu:Nat) (n1:aO) (mem2:List (List Int)):Int×(List (List Int))→Option ((Int×(List (List Int)))⊕(Ex (List (List Int)) (Int×(List (List Int))))):=fun (v3,m4)=>
 cond (decide (v3<(mem2.length:Int)))
  ((idx mem2 v3).bind fun x5=>
   (idx n1.cz v3).bind fun x6=>
   cond ((x5.length:Int) !=x6)
    (some (.inr (.ret (6,([]:List (List Int))))))
    ((ny fu x5).bind fun (r7:List Int)=>
    (bq ((0:Int)≤v3∧v3<(m4.length:Int))).bind fun _=>
    (bq (v3.toNat<m4.length)).bind fun _=>
    some (.inl (IntKind.wrap .i64 (v3+1),m4.set v3.toNat r7))))
  (some (.inr (.dS m4)))
def gO (fu:Nat) (n1:aO) (mem2:List (List Int)):Option (Int×(List (List Int))):=
 cond ((mem2.length:Int) !=(n1.cz.length:Int))
  (some (2,([]:List (List Int))))
  ((bq ((0:Int)≤(mem2.length:Int)∧(mem2.length:Int)≤(mem2.length:Int)∧((24:Nat):Int)*(mem2.length:Int)≤281474976710656∧(mem2.length:Int)≤9223372036854775807)).bind fun _=>
   (bq (wj (List.replicate (Int.toNat (mem2.length:Int)) ([]:List Int))=true)).bind fun _=>
   eS (fun r=>r) (aB (lf fu n1 mem2) fu (0,List.replicate (Int.toNat (mem2.length:Int)) ([]:List Int)):Option (Ex (List (List Int)) (Int×(List (List Int))))) fun (m8:List (List Int))=>
   some (0,m8))
def u6 (fu:Nat) (x1:Int):Option (Bool):=
 some (x1 !=x1)
def rC (fu:Nat) (x1:Int) (y2:Int):Option (Int):=
 (u6 fu x1).bind fun (r3:Bool)=>
 (u6 fu y2).bind fun (r4:Bool)=>
 cond r3
  (cond r4
    (some 0)
    (some (-1)))
  (cond r4
    (some 1)
    (cond (decide (x1<y2))
     (some (-1))
     (cond (decide (x1>y2))
       (some 1)
       (some 0))))
def iJ (fu:Nat) (s1:List Int) (s2:List Int):Int→Option (Int⊕(Ex Unit Int)):=fun v3=>
 cond (decide (v3<(s1.length:Int)))
  ((idx s1 v3).bind fun x4=>
   cond (decide (v3≥(s2.length:Int)))
    (some (.inr (.ret 1)))
    ((idx s2 v3).bind fun x5=>
    (rC fu x4 x5).bind fun (r6:Int)=>
    cond (r6 !=0)
     (some (.inr (.ret r6)))
     (some (.inl (IntKind.wrap .i64 (v3+1))))))
  (some (.inr (.dS ())))
def kY (fu:Nat) (s1:List Int) (s2:List Int):Option (Int):=
 eS (fun r=>r) (aB (iJ fu s1 s2) fu 0:Option (Ex Unit Int)) fun (_:Unit)=>
 cond (decide ((s1.length:Int)<(s2.length:Int)))
  (some (-1))
  (some 0)
def jO (fu:Nat) (a1:af) (b2:af):Option (Int):=
 (kY fu a1.time b2.time).bind fun (r3:Int)=>
 some r3
def eL (fu:Nat) (a1:Int):Int×(List af)→Option ((Int×(List af))⊕(List af)):=fun (j6,m7)=>
 (cond (decide (j6>a1)) ((idx m7 j6).bind fun x8=>
  (idx m7 (IntKind.wrap .i64 (j6-1))).bind fun x9=>
  (jO fu x8 x9).bind fun (r10:Int)=>
  some (decide (r10<0))) (some false)).bind fun (v11:Bool)=>
 cond v11
  (((idx m7 (IntKind.wrap .i64 (j6-1))).bind fun x12=>
    (idx m7 j6).bind fun x13=>
    vu ((idx m7 j6).bind fun x14=>
    (idx (m7.set j6.toNat x12) (IntKind.wrap .i64 (j6-1))).bind fun x15=>
    some ((m7.set j6.toNat x12).set ((IntKind.wrap .i64 (j6-1)).toNat) x13))).bind fun (m16:List af)=>
   some (.inl (IntKind.wrap .i64 (j6-1),m16)))
  (some (.inr m7))
def eK (fu:Nat) (a1:Int) (b2:Int):Int×(List af)→Option ((Int×(List af))⊕(List af)):=fun (i4,m5)=>
 cond (decide (i4<b2))
  ((aB (eL fu a1) fu (i4,m5)).bind fun (m17:List af)=>
   some (.inl (IntKind.wrap .i64 (i4+1),m17)))
  (some (.inr m5))
def fj (fu:Nat) (a1:Int) (b2:Int) (m3:List af):Option (List af):=
 (aB (eK fu a1 b2) fu (IntKind.wrap .i64 (a1+1),m3)).bind fun (m18:List af)=>
 some m18
def gS (fu:Nat) (a1:Int) (b2:Int) (n3:Int):Int×(List af)→Option ((Int×(List af))⊕(List af)):=fun (i5,m6)=>
 cond (decide (i5<n3))
  (((idx m6 (IntKind.wrap .i64 (b2+i5))).bind fun x7=>
    (idx m6 (IntKind.wrap .i64 (a1+i5))).bind fun x8=>
    vu ((idx m6 (IntKind.wrap .i64 (a1+i5))).bind fun x9=>
    (idx (m6.set ((IntKind.wrap .i64 (a1+i5)).toNat) x7) (IntKind.wrap .i64 (b2+i5))).bind fun x10=>
    some ((m6.set ((IntKind.wrap .i64 (a1+i5)).toNat) x7).set ((IntKind.wrap .i64 (b2+i5)).toNat) x8))).bind fun (m11:List af)=>
   some (.inl (IntKind.wrap .i64 (i5+1),m11)))
  (some (.inr m6))
def fp (fu:Nat) (a1:Int) (b2:Int) (n3:Int) (m4:List af):Option (List af):=
 (aB (gS fu a1 b2 n3) fu (0,m4)).bind fun (m12:List af)=>
 some m12
def kr (fu:Nat) (m2:Int):Int×Int×(List af)→Option ((Int×Int×(List af))⊕(Int×(List af))):=fun (i5,j6,m7)=>
 cond (i5 !=j6)
  ((cond (decide (i5>j6))
     ((fp fu (IntKind.wrap .i64 (m2-i5)) m2 j6 m7).bind fun (r8:List af)=>
     bif Nat.beq (List.length r8) (List.length m7) then
     some (IntKind.wrap .i64 (i5-j6),j6,r8)
     else none)
     ((fp fu (IntKind.wrap .i64 (m2-i5)) (IntKind.wrap .i64 ((IntKind.wrap .i64 (m2+j6))-i5)) i5 m7).bind fun (r9:List af)=>
     bif Nat.beq (List.length r9) (List.length m7) then
     some (i5,IntKind.wrap .i64 (j6-i5),r9)
     else none)).bind fun ((i10,j11,m12):Int×Int×(List af))=>
   some (.inl (i10,j11,m12)))
  (some (.inr (i5,m7)))
def gi (fu:Nat) (a1:Int) (m2:Int) (b3:Int) (m4:List af):Option (List af):=
 (aB (kr fu m2) fu (IntKind.wrap .i64 (m2-a1),IntKind.wrap .i64 (b3-m2),m4)).bind fun ((i13,m14):Int×(List af))=>
 (fp fu (IntKind.wrap .i64 (m2-i13)) m2 i13 m14).bind fun (r15:List af)=>
 bif Nat.beq (List.length r15) (List.length m14) then
 some r15
 else none
def ik (self:Int→Int→Int→(List af)→Option (List af)) (fu:Nat) (a1:Int) (m4:List af):Int×Int→Option ((Int×Int)⊕Int):=fun (i5,j6)=>
 cond (decide (i5<j6))
  ((bq ((0:Int)≤1)).bind fun _=>
   (idx m4 (IntKind.wrap .i64 (Int.fdiv (IntKind.wrap .u64 (IntKind.wrap .i64 (i5+j6))) (2^(min (Int.toNat 1) (IntKind.bits .u64)))))).bind fun x7=>
   (idx m4 a1).bind fun x8=>
   (jO fu x7 x8).bind fun (r9:Int)=>
   (cond (decide (r9<0))
     (some (IntKind.wrap .i64 ((IntKind.wrap .i64 (Int.fdiv (IntKind.wrap .u64 (IntKind.wrap .i64 (i5+j6))) (2^(min (Int.toNat 1) (IntKind.bits .u64)))))+1),j6))
     (some (i5,IntKind.wrap .i64 (Int.fdiv (IntKind.wrap .u64 (IntKind.wrap .i64 (i5+j6))) (2^(min (Int.toNat 1) (IntKind.bits .u64))))))).bind fun ((i10,j11):Int×Int)=>
   some (.inl (i10,j11)))
  (some (.inr i5))
def ij (self:Int→Int→Int→(List af)→Option (List af)) (fu:Nat) (i12:Int):Int×(List af)→Option ((Int×(List af))⊕(List af)):=fun (k13,m14)=>
 cond (decide (k13<(IntKind.wrap .i64 (i12-1))))
  (((idx m14 (IntKind.wrap .i64 (k13+1))).bind fun x15=>
    (idx m14 k13).bind fun x16=>
    vu ((idx m14 k13).bind fun x17=>
    (idx (m14.set k13.toNat x15) (IntKind.wrap .i64 (k13+1))).bind fun x18=>
    some ((m14.set k13.toNat x15).set ((IntKind.wrap .i64 (k13+1)).toNat) x16))).bind fun (m19:List af)=>
   some (.inl (IntKind.wrap .i64 (k13+1),m19)))
  (some (.inr m14))
def fR (self:Int→Int→Int→(List af)→Option (List af)) (fu:Nat) (m2:Int) (m4:List af):Int×Int→Option ((Int×Int)⊕Int):=fun (i21,j22)=>
 cond (decide (i21<j22))
  ((bq ((0:Int)≤1)).bind fun _=>
   (idx m4 m2).bind fun x23=>
   (idx m4 (IntKind.wrap .i64 (Int.fdiv (IntKind.wrap .u64 (IntKind.wrap .i64 (i21+j22))) (2^(min (Int.toNat 1) (IntKind.bits .u64)))))).bind fun x24=>
   (jO fu x23 x24).bind fun (r25:Int)=>
   (cond (!(decide (r25<0)))
     (some (IntKind.wrap .i64 ((IntKind.wrap .i64 (Int.fdiv (IntKind.wrap .u64 (IntKind.wrap .i64 (i21+j22))) (2^(min (Int.toNat 1) (IntKind.bits .u64)))))+1),j22))
     (some (i21,IntKind.wrap .i64 (Int.fdiv (IntKind.wrap .u64 (IntKind.wrap .i64 (i21+j22))) (2^(min (Int.toNat 1) (IntKind.bits .u64))))))).bind fun ((i26,j27):Int×Int)=>
   some (.inl (i26,j27)))
  (some (.inr i21))
def ig (self:Int→Int→Int→(List af)→Option (List af)) (fu:Nat) (i28:Int):Int×(List af)→Option ((Int×(List af))⊕(List af)):=fun (k29,m30)=>
 cond (decide (k29>i28))
  (((idx m30 (IntKind.wrap .i64 (k29-1))).bind fun x31=>
    (idx m30 k29).bind fun x32=>
    vu ((idx m30 k29).bind fun x33=>
    (idx (m30.set k29.toNat x31) (IntKind.wrap .i64 (k29-1))).bind fun x34=>
    some ((m30.set k29.toNat x31).set ((IntKind.wrap .i64 (k29-1)).toNat) x32))).bind fun (m35:List af)=>
   some (.inl (IntKind.wrap .i64 (k29-1),m35)))
  (some (.inr m30))
def fQ (self:Int→Int→Int→(List af)→Option (List af)) (fu:Nat) (a1:Int) (m2:Int) (b3:Int) (m4:List af):Int×Int→Option ((Int×Int)⊕Int):=fun (start39,r40)=>
 cond (decide (start39<r40))
  ((bq ((0:Int)≤1)).bind fun _=>
   (idx m4 (IntKind.wrap .i64 ((IntKind.wrap .i64 ((IntKind.wrap .i64 ((IntKind.wrap .i64 (Int.fdiv (IntKind.wrap .u64 (IntKind.wrap .i64 (a1+b3))) (2^(min (Int.toNat 1) (IntKind.bits .u64)))))+m2))-1))-(IntKind.wrap .i64 (Int.fdiv (IntKind.wrap .u64 (IntKind.wrap .i64 (start39+r40))) (2^(min (Int.toNat 1) (IntKind.bits .u64)))))))).bind fun x41=>
   (idx m4 (IntKind.wrap .i64 (Int.fdiv (IntKind.wrap .u64 (IntKind.wrap .i64 (start39+r40))) (2^(min (Int.toNat 1) (IntKind.bits .u64)))))).bind fun x42=>
   (jO fu x41 x42).bind fun (r43:Int)=>
   (cond (!(decide (r43<0)))
     (some (IntKind.wrap .i64 ((IntKind.wrap .i64 (Int.fdiv (IntKind.wrap .u64 (IntKind.wrap .i64 (start39+r40))) (2^(min (Int.toNat 1) (IntKind.bits .u64)))))+1),r40))
     (some (start39,IntKind.wrap .i64 (Int.fdiv (IntKind.wrap .u64 (IntKind.wrap .i64 (start39+r40))) (2^(min (Int.toNat 1) (IntKind.bits .u64))))))).bind fun ((start44,r45):Int×Int)=>
   some (.inl (start44,r45)))
  (some (.inr start39))
def mQ (self:Int→Int→Int→(List af)→Option (List af)) (fu:Nat) (a1:Int) (m2:Int) (b3:Int) (m4:List af):Option (List af):=
 cond ((IntKind.wrap .i64 (m2-a1))==1)
  ((aB (ik self fu a1 m4) fu (m2,b3)).bind fun (i12:Int)=>
   (aB (ij self fu i12) fu (a1,m4)).bind fun (m20:List af)=>
   some m20)
  (cond ((IntKind.wrap .i64 (b3-m2))==1)
    ((aB (fR self fu m2 m4) fu (a1,m2)).bind fun (i28:Int)=>
    (aB (ig self fu i28) fu (m2,m4)).bind fun (m36:List af)=>
    some m36)
    ((bq ((0:Int)≤1)).bind fun _=>
    (cond (decide (m2>(IntKind.wrap .i64 (Int.fdiv (IntKind.wrap .u64 (IntKind.wrap .i64 (a1+b3))) (2^(min (Int.toNat 1) (IntKind.bits .u64)))))))
      (some (IntKind.wrap .i64 ((IntKind.wrap .i64 ((IntKind.wrap .i64 (Int.fdiv (IntKind.wrap .u64 (IntKind.wrap .i64 (a1+b3))) (2^(min (Int.toNat 1) (IntKind.bits .u64)))))+m2))-b3),IntKind.wrap .i64 (Int.fdiv (IntKind.wrap .u64 (IntKind.wrap .i64 (a1+b3))) (2^(min (Int.toNat 1) (IntKind.bits .u64))))))
      (some (a1,m2))).bind fun ((start37,r38):Int×Int)=>
    (aB (fQ self fu a1 m2 b3 m4) fu (start37,r38)).bind fun (start46:Int)=>
    (cond (decide (start46<m2)) (some (decide (m2<(IntKind.wrap .i64 ((IntKind.wrap .i64 ((IntKind.wrap .i64 (Int.fdiv (IntKind.wrap .u64 (IntKind.wrap .i64 (a1+b3))) (2^(min (Int.toNat 1) (IntKind.bits .u64)))))+m2))-start46))))) (some false)).bind fun (v47:Bool)=>
    (cond v47
      ((gi fu start46 m2 (IntKind.wrap .i64 ((IntKind.wrap .i64 ((IntKind.wrap .i64 (Int.fdiv (IntKind.wrap .u64 (IntKind.wrap .i64 (a1+b3))) (2^(min (Int.toNat 1) (IntKind.bits .u64)))))+m2))-start46)) m4).bind fun (r48:List af)=>
       bif Nat.beq (List.length r48) (List.length m4) then
       some r48
       else none)
      (some m4)).bind fun (m49:List af)=>
    (cond (decide (a1<start46)) (some (decide (start46<(IntKind.wrap .i64 (Int.fdiv (IntKind.wrap .u64 (IntKind.wrap .i64 (a1+b3))) (2^(min (Int.toNat 1) (IntKind.bits .u64)))))))) (some false)).bind fun (v50:Bool)=>
    (cond v50
      ((self a1 start46 (IntKind.wrap .i64 (Int.fdiv (IntKind.wrap .u64 (IntKind.wrap .i64 (a1+b3))) (2^(min (Int.toNat 1) (IntKind.bits .u64))))) m49).bind fun (r51:List af)=>
       bif Nat.beq (List.length r51) (List.length m49) then
       some r51
       else none)
      (some m49)).bind fun (m52:List af)=>
    (cond (decide ((IntKind.wrap .i64 (Int.fdiv (IntKind.wrap .u64 (IntKind.wrap .i64 (a1+b3))) (2^(min (Int.toNat 1) (IntKind.bits .u64)))))<(IntKind.wrap .i64 ((IntKind.wrap .i64 ((IntKind.wrap .i64 (Int.fdiv (IntKind.wrap .u64 (IntKind.wrap .i64 (a1+b3))) (2^(min (Int.toNat 1) (IntKind.bits .u64)))))+m2))-start46)))) (some (decide ((IntKind.wrap .i64 ((IntKind.wrap .i64 ((IntKind.wrap .i64 (Int.fdiv (IntKind.wrap .u64 (IntKind.wrap .i64 (a1+b3))) (2^(min (Int.toNat 1) (IntKind.bits .u64)))))+m2))-start46))<b3))) (some false)).bind fun (v53:Bool)=>
    (cond v53
      ((self (IntKind.wrap .i64 (Int.fdiv (IntKind.wrap .u64 (IntKind.wrap .i64 (a1+b3))) (2^(min (Int.toNat 1) (IntKind.bits .u64))))) (IntKind.wrap .i64 ((IntKind.wrap .i64 ((IntKind.wrap .i64 (Int.fdiv (IntKind.wrap .u64 (IntKind.wrap .i64 (a1+b3))) (2^(min (Int.toNat 1) (IntKind.bits .u64)))))+m2))-start46)) b3 m52).bind fun (r55:List af)=>
       bif Nat.beq (List.length r55) (List.length m52) then
       some r55
       else none)
      (some m52)).bind fun (m56:List af)=>
    some m56))
def cA:Nat→Int→Int→Int→(List af)→Option (List af)
 | 0=>fun _ _ _ _=>none
 | fu+1=>mQ (cA fu) (fu+1)
def iQ (fu:Nat) (n1:Int):Int×Int×(List af)→Option ((Int×Int×(List af))⊕(Int×(List af))):=fun (a3,b4,m5)=>
 cond (decide (b4≤n1))
  ((fj fu a3 b4 m5).bind fun (r6:List af)=>
   bif Nat.beq (List.length r6) (List.length m5) then
   some (.inl (b4,IntKind.wrap .i64 (b4+20),r6))
   else none)
  (some (.inr (a3,m5)))
def iP (fu:Nat) (n1:Int) (blockSize10:Int):Int×Int×(List af)→Option ((Int×Int×(List af))⊕(Int×(List af))):=fun (a12,b13,m14)=>
 cond (decide (b13≤n1))
  ((cA fu a12 (IntKind.wrap .i64 (a12+blockSize10)) b13 m14).bind fun (r15:List af)=>
   bif Nat.beq (List.length r15) (List.length m14) then
   some (.inl (b13,IntKind.wrap .i64 (b13+(IntKind.wrap .i64 (2*blockSize10))),r15))
   else none)
  (some (.inr (a12,m14)))
def iO (fu:Nat) (n1:Int):Int×(List af)→Option ((Int×(List af))⊕(List af)):=fun (blockSize10,m11)=>
 cond (decide (blockSize10<n1))
  ((aB (iP fu n1 blockSize10) fu (0,IntKind.wrap .i64 (2*blockSize10),m11)).bind fun ((a16,m17):Int×(List af))=>
   (cond (decide ((IntKind.wrap .i64 (a16+blockSize10))<n1))
     ((cA fu a16 (IntKind.wrap .i64 (a16+blockSize10)) n1 m17).bind fun (r18:List af)=>
     bif Nat.beq (List.length r18) (List.length m17) then
     some r18
     else none)
     (some m17)).bind fun (m19:List af)=>
   some (.inl (IntKind.wrap .i64 (blockSize10*2),m19)))
  (some (.inr m11))
def lC (fu:Nat) (n1:Int) (m2:List af):Option (List af):=
 (aB (iQ fu n1) fu (0,20,m2)).bind fun ((a7,m8):Int×(List af))=>
 (fj fu a7 n1 m8).bind fun (r9:List af)=>
 bif Nat.beq (List.length r9) (List.length m8) then
 (aB (iO fu n1) fu (20,r9)).bind fun (m20:List af)=>
 some m20
 else none
def jn (fu:Nat) (m1:List af):Option (List af):=
 (lC fu (m1.length:Int) m1).bind fun (r2:List af)=>
 bif Nat.beq (List.length r2) (List.length m1) then
 some r2
 else none
def uD (fu:Nat) (s1:List Int) (s2:List Int):Int→Option (Int⊕(Ex Unit Bool)):=fun v3=>
 cond (decide (v3<(s1.length:Int)))
  ((idx s1 v3).bind fun x4=>
   (idx s2 v3).bind fun x5=>
   cond (x4 !=x5)
    (some (.inr (.ret false)))
    (some (.inl (IntKind.wrap .i64 (v3+1)))))
  (some (.inr (.dS ())))
def mR (fu:Nat) (s1:List Int) (s2:List Int):Option (Bool):=
 cond ((s1.length:Int) !=(s2.length:Int))
  (some false)
  (eS (fun r=>r) (aB (uD fu s1 s2) fu 0:Option (Ex Unit Bool)) fun (_:Unit)=>
   some true)
def nw (fu:Nat) (s1:Int) (s2:Int) (m3:List af):Option ((List af)×(List af)):=
 si (((Int.toNat s2):Nat):Int) (some (m3,([]:List af))) ((bq ((Int.toNat s1)+(Int.toNat s2)≤m3.length)).bind fun _=>
 (bq (([]:List af).length+((m3.drop (Int.toNat s1)).take (Int.toNat s2)).length≤maxLen∧(([]:List af).length+((m3.drop (Int.toNat s1)).take (Int.toNat s2)).length)*64≤140737488355328)).bind fun _=>
 some (m3,([]:List af)++((m3.drop (Int.toNat s1)).take (Int.toNat s2))))
def jG (fu:Nat) (a1:bF) (x2:List Int) (m3:List (List Int)):Option (Bool×Int×Int×(List (List Int))):=
 (pf fu a1.At x2).bind fun (r4:Int)=>
 (cond (decide (r4<0)) (some true) ((bq ((0:Int)≤a1.Array∧a1.Array<(m3.length:Int))).bind fun _=>
  (m3[a1.Array.toNat]?).bind fun x5=>
  some (decide (r4≥((List.length x5:Nat):Int))))).bind fun (v6:Bool)=>
 cond v6
  (some (true,0,0,m3))
  ((bq ((0:Int)≤a1.Array∧a1.Array<(m3.length:Int))).bind fun _=>
   (m3[a1.Array.toNat]?).bind fun x7=>
   (bq ((0:Int)≤r4∧r4<((List.length x7:Nat):Int))).bind fun _=>
   some (false,((a1.Array.toNat:Nat):Int),((r4.toNat:Nat):Int),m3))
def kK (fu:Nat) (a1:bF) (x2:List Int) (m3:List (List Int)):Option (Int×(List (List Int))):=
 (jG fu a1 x2 m3).bind fun ((r4,r5,r6,r7):Bool×Int×Int×(List (List Int)))=>
 bif Nat.beq (List.length r7) (List.length m3) then
 cond (!r4)
  ((bq (r4=false)).bind fun _=>
   (r7[(Int.toNat r5)]?).bind fun x8=>
   (x8[(Int.toNat r6)]?).bind fun x9=>
   some (x9,r7))
  (some (0,r7))
 else none
def gC (fu:Nat) (s1:dh) (x2:List Int):Int×(List (List Int))×(List Int)→Option ((Int×(List (List Int))×(List Int))⊕((List (List Int))×(List Int))):=fun (v4,m5,m6)=>
 cond (decide (v4<(s1.c9.length:Int)))
  ((idx s1.c9 v4).bind fun x7=>
   (kK fu x7 x2 m5).bind fun ((r8,r9):Int×(List (List Int)))=>
   bif Nat.beq (List.length r9) (List.length m5) then
   (idx m6 v4).bind fun x10=>
   some (.inl (IntKind.wrap .i64 (v4+1),r9,m6.set v4.toNat r8))
   else none)
  (some (.inr (m5,m6)))
def ld (fu:Nat) (s1:dh) (x2:List Int) (m3:List (List Int)):Option (List (List Int)):=
 (bq ((0:Int)≤3∧3≤3∧((8:Nat):Int)*3≤281474976710656∧3≤9223372036854775807)).bind fun _=>
 (aB (gC fu s1 x2) fu (0,m3,List.replicate (Int.toNat 3) (0:Int))).bind fun ((m11,m12):(List (List Int))×(List Int))=>
 (jG fu s1.cf x2 m11).bind fun ((r13,r14,r15,r16):Bool×Int×Int×(List (List Int)))=>
 bif Nat.beq (List.length r16) (List.length m11) then
 cond r13
  (some r16)
  ((cond (s1.Do==1)
     ((bq (r13=false)).bind fun _=>
     (r16[(Int.toNat r14)]?).bind fun x17=>
     (bq ((Int.toNat r15)<x17.length)).bind fun _=>
     some (r16.set (Int.toNat r14) (x17.set (Int.toNat r15) s1.Value)))
     ((cond (s1.Do==2)
       ((idx m12 0).bind fun x18=>
        (bq (r13=false)).bind fun _=>
        (r16[(Int.toNat r14)]?).bind fun x19=>
        (bq ((Int.toNat r15)<x19.length)).bind fun _=>
        some (r16.set (Int.toNat r14) (x19.set (Int.toNat r15) x18)))
       ((cond (s1.Do==3)
          ((idx m12 0).bind fun x20=>
          (idx m12 1).bind fun x21=>
          (bq (r13=false)).bind fun _=>
          (r16[(Int.toNat r14)]?).bind fun x22=>
          (bq ((Int.toNat r15)<x22.length)).bind fun _=>
          some (r16.set (Int.toNat r14) (x22.set (Int.toNat r15) (IntKind.wrap .i64 (x20+x21)))))
          ((cond (s1.Do==4)
            ((idx m12 0).bind fun x23=>
             (idx m12 1).bind fun x24=>
             (bq (r13=false)).bind fun _=>
             (r16[(Int.toNat r14)]?).bind fun x25=>
             (bq ((Int.toNat r15)<x25.length)).bind fun _=>
             some (r16.set (Int.toNat r14) (x25.set (Int.toNat r15) (IntKind.wrap .i64 (x23-x24)))))
            ((cond (s1.Do==5)
               ((idx m12 0).bind fun x26=>
               (idx m12 1).bind fun x27=>
               (bq (r13=false)).bind fun _=>
               (r16[(Int.toNat r14)]?).bind fun x28=>
               (bq ((Int.toNat r15)<x28.length)).bind fun _=>
               some (r16.set (Int.toNat r14) (x28.set (Int.toNat r15) (IntKind.wrap .i64 (x26*x27)))))
               ((cond (s1.Do==6)
                 ((idx m12 0).bind fun x29=>
                  (idx m12 1).bind fun x30=>
                  (bq (r13=false)).bind fun _=>
                  (r16[(Int.toNat r14)]?).bind fun x31=>
                  (bq ((Int.toNat r15)<x31.length)).bind fun _=>
                  some (r16.set (Int.toNat r14) (x31.set (Int.toNat r15) (if x30>x29 then x30 else x29))))
                 ((cond (s1.Do==7)
                    ((bq (r13=false)).bind fun _=>
                    (r16[(Int.toNat r14)]?).bind fun x32=>
                    (bq ((Int.toNat r15)<x32.length)).bind fun _=>
                    (idx m12 0).bind fun x33=>
                    (idx m12 1).bind fun x34=>
                    (cond (decide (x33<x34))
                      ((bq (r13=false)).bind fun _=>
                       ((r16.set (Int.toNat r14) (x32.set (Int.toNat r15) 0))[(Int.toNat r14)]?).bind fun x35=>
                       (bq ((Int.toNat r15)<x35.length)).bind fun _=>
                       some ((r16.set (Int.toNat r14) (x32.set (Int.toNat r15) 0)).set (Int.toNat r14) (x35.set (Int.toNat r15) 1)))
                      (some (r16.set (Int.toNat r14) (x32.set (Int.toNat r15) 0)))).bind fun (m36:List (List Int))=>
                    some m36)
                    ((cond (s1.Do==8)
                      ((idx m12 2).bind fun x37=>
                       (bq (r13=false)).bind fun _=>
                       (r16[(Int.toNat r14)]?).bind fun x38=>
                       (bq ((Int.toNat r15)<x38.length)).bind fun _=>
                       (idx m12 0).bind fun x39=>
                       (cond (x39 !=0)
                         ((idx m12 1).bind fun x40=>
                         (bq (r13=false)).bind fun _=>
                         ((r16.set (Int.toNat r14) (x38.set (Int.toNat r15) x37))[(Int.toNat r14)]?).bind fun x41=>
                         (bq ((Int.toNat r15)<x41.length)).bind fun _=>
                         some ((r16.set (Int.toNat r14) (x38.set (Int.toNat r15) x37)).set (Int.toNat r14) (x41.set (Int.toNat r15) x40)))
                         (some (r16.set (Int.toNat r14) (x38.set (Int.toNat r15) x37)))).bind fun (m42:List (List Int))=>
                       some m42)
                      ((cond (s1.Do==9)
                         ((bq (r13=false)).bind fun _=>
                         (idx m12 0).bind fun x43=>
                         (r16[(Int.toNat r14)]?).bind fun x44=>
                         (x44[(Int.toNat r15)]?).bind fun x45=>
                         (bq (r13=false)).bind fun _=>
                         (r16[(Int.toNat r14)]?).bind fun x46=>
                         (bq ((Int.toNat r15)<x46.length)).bind fun _=>
                         some (r16.set (Int.toNat r14) (x46.set (Int.toNat r15) (IntKind.wrap .i64 (x45+x43)))))
                         ((bq (r13=false)).bind fun _=>
                         (idx m12 0).bind fun x47=>
                         (idx m12 1).bind fun x48=>
                         (r16[(Int.toNat r14)]?).bind fun x49=>
                         (x49[(Int.toNat r15)]?).bind fun x50=>
                         (bq (r13=false)).bind fun _=>
                         (r16[(Int.toNat r14)]?).bind fun x51=>
                         (bq ((Int.toNat r15)<x51.length)).bind fun _=>
                         some (r16.set (Int.toNat r14) (x51.set (Int.toNat r15) (IntKind.wrap .i64 (x50+(IntKind.wrap .i64 (x47*x48)))))))).bind fun (m52:List (List Int))=>
                       some m52)).bind fun (m53:List (List Int))=>
                    some m53)).bind fun (m54:List (List Int))=>
                  some m54)).bind fun (m55:List (List Int))=>
               some m55)).bind fun (m56:List (List Int))=>
             some m56)).bind fun (m57:List (List Int))=>
          some m57)).bind fun (m58:List (List Int))=>
        some m58)).bind fun (m59:List (List Int))=>
     some m59)).bind fun (m60:List (List Int))=>
   some m60)
 else none
def mw (fu:Nat) (s1:Int) (s2:Int) (i3:Int) (j4:Int) (m5:List af):Option (Int×Int×(List af)):=
 (bq ((0:Int)≤i3∧i3≤j4∧j4≤(((Int.toNat s2):Nat):Int)∧(((Int.toNat s2):Nat):Int)≤(((Int.toNat s2):Nat):Int))).bind fun _=>
 cond (i3==j4)
  (some ((((Int.toNat s1):Nat):Int),(((Int.toNat s2):Nat):Int),m5))
  ((bq ((0:Int)≤i3∧i3≤(((Int.toNat s2):Nat):Int))).bind fun _=>
   (bq ((0:Int)≤j4∧j4≤(((Int.toNat s2):Nat):Int))).bind fun _=>
   (bq ((Int.toNat s1)=0∧(Int.toNat i3)+((Int.toNat s2)-Int.toNat j4)≤m5.length∧((Int.toNat s1)+Int.toNat j4)+((Int.toNat s2)-Int.toNat j4)≤m5.length)).bind fun _=>
   (bq ((0:Int)≤((((Int.toNat i3)+((Int.toNat s2)-Int.toNat j4)):Nat):Int)∧((((Int.toNat i3)+((Int.toNat s2)-Int.toNat j4)):Nat):Int)≤(((Int.toNat s2):Nat):Int)∧0+Int.toNat (((Int.toNat s2):Nat):Int)≤(iF m5 ((List.drop ((Int.toNat s1)+Int.toNat j4) m5).take ((Int.toNat s2)-Int.toNat j4)) (Int.toNat i3) ((Int.toNat s2)-Int.toNat j4)).length)).bind fun _=>
   (bq ((0+Int.toNat ((((Int.toNat i3)+((Int.toNat s2)-Int.toNat j4)):Nat):Int))+(Int.toNat (((Int.toNat s2):Nat):Int)-Int.toNat ((((Int.toNat i3)+((Int.toNat s2)-Int.toNat j4)):Nat):Int))≤(iF m5 ((List.drop ((Int.toNat s1)+Int.toNat j4) m5).take ((Int.toNat s2)-Int.toNat j4)) (Int.toNat i3) ((Int.toNat s2)-Int.toNat j4)).length)).bind fun _=>
   some (((0:Nat):Int),((((Int.toNat i3)+((Int.toNat s2)-Int.toNat j4)):Nat):Int),iF (iF m5 ((List.drop ((Int.toNat s1)+Int.toNat j4) m5).take ((Int.toNat s2)-Int.toNat j4)) (Int.toNat i3) ((Int.toNat s2)-Int.toNat j4)) (List.replicate (Int.toNat (((Int.toNat s2):Nat):Int)-Int.toNat ((((Int.toNat i3)+((Int.toNat s2)-Int.toNat j4)):Nat):Int)) (⟨(⟨0,([]:List Int)⟩:bD),0,([]:List Int)⟩:af)) (0+Int.toNat ((((Int.toNat i3)+((Int.toNat s2)-Int.toNat j4)):Nat):Int)) (Int.toNat (((Int.toNat s2):Nat):Int)-Int.toNat ((((Int.toNat i3)+((Int.toNat s2)-Int.toNat j4)):Nat):Int))))
def oA (fu:Nat) (s1:af) (m2:Int) (m3:Int) (m4:List af):Option (Bool×Int×Int×(List af)):=
 (bq ((0:Int)≤0∧0<(((Int.toNat m3):Nat):Int))).bind fun _=>
 (m4[((Int.toNat m2)+(0:Int).toNat)]?).bind fun x5=>
 (m4[((Int.toNat m2)+(0:Int).toNat)]?).bind fun x6=>
 (mR fu s1.time x6.time).bind fun (r7:Bool)=>
 some ((!r7),(((Int.toNat m2):Nat):Int),(((Int.toNat m3):Nat):Int),m4)
def ia (fu:Nat) (s2:Int):Int×Int×Int×Int×Int×(List af)→Option ((Int×Int×Int×Int×Int×(List af))⊕(Ex (Int×Int×(List af)) (Int×(List af)×Int×Int))):=fun (v6,s7,s8,m9,m10,m11)=>
 cond (decide (v6<(((Int.toNat s2):Nat):Int)))
  ((bq ((0:Int)≤v6∧v6<(((Int.toNat s8):Nat):Int))).bind fun _=>
   (m11[((Int.toNat s7)+v6.toNat)]?).bind fun x12=>
   (oA fu x12 (((Int.toNat m9):Nat):Int) (((Int.toNat m10):Nat):Int) m11).bind fun ((r13,r14,r15,r16):Bool×Int×Int×(List af))=>
   bif Nat.beq (List.length r16) (List.length m11) then
   cond r13
    (some (.inr (.ret (v6,r16,(((Int.toNat r14):Nat):Int),(((Int.toNat r15):Nat):Int)))))
    (some (.inl (IntKind.wrap .i64 (v6+1),(((Int.toNat s7):Nat):Int),(((Int.toNat s8):Nat):Int),(((Int.toNat r14):Nat):Int),(((Int.toNat r15):Nat):Int),r16)))
   else none)
  (some (.inr (.dS ((((Int.toNat m9):Nat):Int),(((Int.toNat m10):Nat):Int),m11))))
def kD (fu:Nat) (s1:Int) (s2:Int) (m3:List af) (m4:Int) (m5:Int):Option (Int×(List af)×Int×Int):=
 eS (fun r=>r) (aB (ia fu s2) fu (0,(((Int.toNat s1):Nat):Int),(((Int.toNat s2):Nat):Int),(((Int.toNat m4):Nat):Int),(((Int.toNat m5):Nat):Int),m3):Option (Ex (Int×Int×(List af)) (Int×(List af)×Int×Int))) fun ((m17,m18,m19):Int×Int×(List af))=>
 some ((-1),m19,(((Int.toNat m17):Nat):Int),(((Int.toNat m18):Nat):Int))
def lb (fu:Nat) (n1:aO) (mix4:List Int):Int×Int×Int×(List (List Int))×(List af)→Option ((Int×Int×Int×(List (List Int))×(List af))⊕(Int×(List (List Int))×(List af))):=fun (turn22,now23,now24,m25,m26)=>
 cond (decide ((((Int.toNat now24):Nat):Int)>0))
  ((cond (decide ((mix4.length:Int)>0))
     ((bq ((mix4.length:Int)≠0)).bind fun _=>
     (idx mix4 (Int.tmod turn22 (mix4.length:Int))).bind fun x27=>
     (bq ((((Int.toNat now24):Nat):Int)≠0)).bind fun _=>
     (bq ((((Int.toNat now24):Nat):Int)≠0)).bind fun _=>
     some (Int.tmod (IntKind.wrap .i64 ((Int.tmod x27 (((Int.toNat now24):Nat):Int))+(((Int.toNat now24):Nat):Int))) (((Int.toNat now24):Nat):Int),IntKind.wrap .i64 (turn22+1)))
     (some (0,turn22))).bind fun ((i28,turn29):Int×Int)=>
   (bq ((0:Int)≤i28∧i28<(((Int.toNat now24):Nat):Int))).bind fun _=>
   (m26[((Int.toNat now23)+i28.toNat)]?).bind fun x30=>
   (m26[((Int.toNat now23)+i28.toNat)]?).bind fun x31=>
   (idx n1.cd x31.aR.Stmt).bind fun x32=>
   (bq ((0:Int)≤i28∧i28<(((Int.toNat now24):Nat):Int))).bind fun _=>
   (m26[((Int.toNat now23)+i28.toNat)]?).bind fun x33=>
   (m26[((Int.toNat now23)+i28.toNat)]?).bind fun x34=>
   (ld fu x32 x34.aR.At m25).bind fun (r35:List (List Int))=>
   bif Nat.beq (List.length r35) (List.length m25) then
   (mw fu (((Int.toNat now23):Nat):Int) (((Int.toNat now24):Nat):Int) i28 (IntKind.wrap .i64 (i28+1)) m26).bind fun ((r36,r37,r38):Int×Int×(List af))=>
   bif Nat.beq (List.length r38) (List.length m26) then
   some (.inl (turn29,(((Int.toNat r36):Nat):Int),(((Int.toNat r37):Nat):Int),r35,r38))
   else none
   else none)
  (some (.inr (turn22,m25,m26)))
def pM (fu:Nat) (n1:aO) (mix4:List Int):Int×(List af)×(List (List Int))×Int×Int→Option ((Int×(List af)×(List (List Int))×Int×Int)⊕((List af)×(List (List Int))×Int×Int)):=fun (turn10,m11,m12,m13,m14)=>
 cond (decide ((((Int.toNat m14):Nat):Int)>0))
  ((kD fu (((Int.toNat m13):Nat):Int) (((Int.toNat m14):Nat):Int) m11 (((Int.toNat m13):Nat):Int) (((Int.toNat m14):Nat):Int)).bind fun ((r15,r16,r17,r18):Int×(List af)×Int×Int)=>
   bif Nat.beq (List.length r16) (List.length m11) then
   (cond (decide (r15<0))
     (some (((Int.toNat r18):Nat):Int))
     (some r15)).bind fun (k19:Int)=>
   (bq ((0:Int)≤k19∧k19≤(((Int.toNat r18):Nat):Int))).bind fun _=>
   (nw fu (((Int.toNat r17):Nat):Int) (((Int.toNat k19):Nat):Int) r16).bind fun ((r20,r21):(List af)×(List af))=>
   bif Nat.beq (List.length r20) (List.length r16) then
   (aB (lb fu n1 mix4) fu (turn10,((0:Nat):Int),((r21.length:Nat):Int),m12,r21)).bind fun ((turn39,m40,m41):Int×(List (List Int))×(List af))=>
   (bq ((0:Int)≤k19∧k19≤(((Int.toNat r18):Nat):Int))).bind fun _=>
   some (.inl (turn39,r20,m40,((((Int.toNat r17)+Int.toNat k19):Nat):Int),((((Int.toNat r18)-Int.toNat k19):Nat):Int)))
   else none
   else none)
  (some (.inr (m11,m12,(((Int.toNat m13):Nat):Int),(((Int.toNat m14):Nat):Int))))
def jP (fu:Nat) (n1:aO) (times2:List (List aT)) (mem3:List (List Int)) (mix4:List Int):Option ((List (List Int))×Int):=
 (iw fu n1 times2).bind fun ((r5,r6):Int×(List af))=>
 cond (r5 !=0)
  (some (([]:List (List Int)),r5))
  ((gO fu n1 mem3).bind fun ((r7,r8):Int×(List (List Int)))=>
   cond (r7 !=0)
    (some (([]:List (List Int)),r7))
    ((jn fu r6).bind fun (r9:List af)=>
    bif Nat.beq (List.length r9) (List.length r6) then
    (aB (pM fu n1 mix4) fu (0,r9,r8,((0:Nat):Int),((r9.length:Nat):Int))).bind fun ((m42,m43,m44,m45):(List af)×(List (List Int))×Int×Int)=>
    some (m43,0)
    else none))
def jl (fu:Nat):Option (Bool):=
 (jP fu (⟨[1],[(⟨(⟨([]:List Int),([]:List aT)⟩:bp),1,7,(⟨0,(⟨([]:List Int),0⟩:aT)⟩:bF),([]:List bF)⟩:dh)]⟩:aO) [([]:List aT)] [[0]] ([]:List Int)).bind fun ((r1,r2):(List (List Int))×Int)=>
 (cond (r2==0) (cond ((r1.length:Int)==1) ((idx r1 0).bind fun x3=>
  cond ((x3.length:Int)==1) ((idx r1 0).bind fun x4=>
  (idx x4 0).bind fun x5=>
  some (x5==7)) (some false)) (some false)) (some false)).bind fun (v6:Bool)=>
 some v6
def mT (fu:Nat) (n1:aO) (a2:bF) (x3:List Int):Option (gZ×Bool):=
 (pf fu a2.At x3).bind fun (r4:Int)=>
 (cond (decide (r4≥0)) ((idx n1.cz a2.Array).bind fun x5=>
  some (decide (r4<x5),a2.Array,r4)) (some (false,a2.Array,r4))).bind fun ((v6,m7,m8):Bool×Int×Int)=>
 some ((⟨m7,m8⟩:gZ),v6)
def bY (fu:Nat) (c1:gZ) (m2:bC):Option (Bool×Int×Int×bC):=
 (cond (!(!(uJ m2.es c1.array c1.at_)))
   ((bq (m2.n+1≤maxLen∧uJ m2.es c1.array c1.at_=true)).bind fun _=>
    some (false,((m2.n:Nat):Int),((0:Nat):Int),yL m2 c1.array c1.at_ 3))
   (some ((uJ m2.es c1.array c1.at_),(((Jh m2.es c1.array c1.at_):Nat):Int),((0:Nat):Int),m2))).bind fun ((t3,t4,t5,m6):Bool×Int×Int×bC)=>
 some (t3,(((Int.toNat t4):Nat):Int),(((Int.toNat t5):Nat):Int),m6)
def gU (fu:Nat) (a1:af) (b2:af):Option (Bool):=
 (kY fu b2.time a1.time).bind fun (r3:Int)=>
 some (decide (r3<0))
end F
namespace Gn
open F
def Gu (bd:af→af→Option Bool) (fu:Nat) (k1:Int) (m2:Int) (m3:List af) (m4:Int) (m5:List Int) (m6:Int) (m7:List Int):Option (Int×(List af)×Int×(List Int)×Int×(List Int)):=
 (cond (decide (m2<0)) ((idx m3 k1).bind fun x10=>
  (bd x10 (⟨(⟨m4,m5⟩:bD),m6,m7⟩:af)).bind fun (r11:Bool)=>
  some r11) (cond (decide (k1<m2)) ((idx m3 k1).bind fun x8=>
  (bd x8 (⟨(⟨m4,m5⟩:bD),m6,m7⟩:af)).bind fun (r9:Bool)=>
  some r9) (some false))).bind fun (v12:Bool)=>
 (cond v12
   (some k1)
   (some m2)).bind fun (m13:Int)=>
 some (m13,m3,m4,m5,m6,m7)
def tw (bd:af→af→Option Bool) (fu:Nat) (l1:Int) (m3:Int) (m4:Int) (m5:Int) (m6:Int) (m7:bC) (v14:Int):Int×Int×(List af)×Int×(List Int)×Int×(List Int)→Option ((Int×Int×(List af)×Int×(List Int)×Int×(List Int))⊕(Int×(List af)×Int×(List Int)×Int×(List Int))):=fun (v21,m22,m23,m24,m25,m26,m27)=>
 cond (decide (v21<(((([((Int.toNat m3),(Int.toNat m4)),((Int.toNat m5),(Int.toNat m6))]:List (Nat×Nat)).getD ((Int.toNat l1)+v14.toNat) (0,0)).2:Nat):Int)))
  ((bq ((0:Int)≤v21∧v21<(((([((Int.toNat m3),(Int.toNat m4)),((Int.toNat m5),(Int.toNat m6))]:List (Nat×Nat)).getD ((Int.toNat l1)+v14.toNat) (0,0)).2:Nat):Int))).bind fun _=>
   (nF m7.es ((([((Int.toNat m3),(Int.toNat m4)),((Int.toNat m5),(Int.toNat m6))]:List (Nat×Nat)).getD ((Int.toNat l1)+v14.toNat) (0,0)).1) v21.toNat).bind fun x28=>
   (Gu bd fu x28 m22 m23 m24 m25 m26 m27).bind fun ((r29,r30,r31,r32,r33,r34):Int×(List af)×Int×(List Int)×Int×(List Int))=>
   some (.inl (IntKind.wrap .i64 (v21+1),r29,r30,r31,r32,r33,r34)))
  (some (.inr (m22,m23,m24,m25,m26,m27)))
def F2 (bd:af→af→Option Bool) (fu:Nat) (l1:Int) (l2:Int) (m3:Int) (m4:Int) (m5:Int) (m6:Int) (m7:bC):Int×Int×(List af)×Int×(List Int)×Int×(List Int)→Option ((Int×Int×(List af)×Int×(List Int)×Int×(List Int))⊕(Int×(List af)×Int×(List Int)×Int×(List Int))):=fun (v14,m15,m16,m17,m18,m19,m20)=>
 cond (decide (v14<(((Int.toNat l2):Nat):Int)))
  ((bq ((0:Int)≤v14∧v14<(((Int.toNat l2):Nat):Int))).bind fun _=>
   (bq (((Int.toNat l1)+v14.toNat)<([((Int.toNat m3),(Int.toNat m4)),((Int.toNat m5),(Int.toNat m6))]:List (Nat×Nat)).length)).bind fun _=>
   (aB (tw bd fu l1 m3 m4 m5 m6 m7 v14) fu (0,m15,m16,m17,m18,m19,m20)).bind fun ((m35,m36,m37,m38,m39,m40):Int×(List af)×Int×(List Int)×Int×(List Int))=>
   some (.inl (IntKind.wrap .i64 (v14+1),m35,m36,m37,m38,m39,m40)))
  (some (.inr (m15,m16,m17,m18,m19,m20)))
def two (bd:af→af→Option Bool) (fu:Nat) (l1:Int) (l2:Int) (m3:Int) (m4:Int) (m5:Int) (m6:Int) (m7:bC) (m8:Int) (m9:List af) (m10:Int) (m11:List Int) (m12:Int) (m13:List Int):Option (bC×Int×(List af)×Int×(List Int)×Int×(List Int)):=
 (aB (F2 bd fu l1 l2 m3 m4 m5 m6 m7) fu (0,m8,m9,m10,m11,m12,m13)).bind fun ((m41,m42,m43,m44,m45,m46):Int×(List af)×Int×(List Int)×Int×(List Int))=>
 some (m7,m41,m42,m43,m44,m45,m46)
def vO (bd:af→af→Option Bool) (fu:Nat) (l1:Int) (m3:Int) (m4:Int) (m5:bC) (v12:Int):Int×Int×(List af)×Int×(List Int)×Int×(List Int)→Option ((Int×Int×(List af)×Int×(List Int)×Int×(List Int))⊕(Int×(List af)×Int×(List Int)×Int×(List Int))):=fun (v19,m20,m21,m22,m23,m24,m25)=>
 cond (decide (v19<(((([((Int.toNat m3),(Int.toNat m4))]:List (Nat×Nat)).getD ((Int.toNat l1)+v12.toNat) (0,0)).2:Nat):Int)))
  ((bq ((0:Int)≤v19∧v19<(((([((Int.toNat m3),(Int.toNat m4))]:List (Nat×Nat)).getD ((Int.toNat l1)+v12.toNat) (0,0)).2:Nat):Int))).bind fun _=>
   (nF m5.es ((([((Int.toNat m3),(Int.toNat m4))]:List (Nat×Nat)).getD ((Int.toNat l1)+v12.toNat) (0,0)).1) v19.toNat).bind fun x26=>
   (Gu bd fu x26 m20 m21 m22 m23 m24 m25).bind fun ((r27,r28,r29,r30,r31,r32):Int×(List af)×Int×(List Int)×Int×(List Int))=>
   some (.inl (IntKind.wrap .i64 (v19+1),r27,r28,r29,r30,r31,r32)))
  (some (.inr (m20,m21,m22,m23,m24,m25)))
def G4 (bd:af→af→Option Bool) (fu:Nat) (l1:Int) (l2:Int) (m3:Int) (m4:Int) (m5:bC):Int×Int×(List af)×Int×(List Int)×Int×(List Int)→Option ((Int×Int×(List af)×Int×(List Int)×Int×(List Int))⊕(Int×(List af)×Int×(List Int)×Int×(List Int))):=fun (v12,m13,m14,m15,m16,m17,m18)=>
 cond (decide (v12<(((Int.toNat l2):Nat):Int)))
  ((bq ((0:Int)≤v12∧v12<(((Int.toNat l2):Nat):Int))).bind fun _=>
   (bq (((Int.toNat l1)+v12.toNat)<([((Int.toNat m3),(Int.toNat m4))]:List (Nat×Nat)).length)).bind fun _=>
   (aB (vO bd fu l1 m3 m4 m5 v12) fu (0,m13,m14,m15,m16,m17,m18)).bind fun ((m33,m34,m35,m36,m37,m38):Int×(List af)×Int×(List Int)×Int×(List Int))=>
   some (.inl (IntKind.wrap .i64 (v12+1),m33,m34,m35,m36,m37,m38)))
  (some (.inr (m13,m14,m15,m16,m17,m18)))
def one (bd:af→af→Option Bool) (fu:Nat) (l1:Int) (l2:Int) (m3:Int) (m4:Int) (m5:bC) (m6:Int) (m7:List af) (m8:Int) (m9:List Int) (m10:Int) (m11:List Int):Option (bC×Int×(List af)×Int×(List Int)×Int×(List Int)):=
 (aB (G4 bd fu l1 l2 m3 m4 m5) fu (0,m6,m7,m8,m9,m10,m11)).bind fun ((m39,m40,m41,m42,m43,m44):Int×(List af)×Int×(List Int)×Int×(List Int))=>
 some (m5,m39,m40,m41,m42,m43,m44)
def mS (bd:af→af→Option Bool) (fu:Nat) (n1:aO) (s2:af) (x10:dh) (r12:Bool):Int×bC×Int×(List af)×Int×(List Int)×Int×(List Int)×(List gZ)→Option ((Int×bC×Int×(List af)×Int×(List Int)×Int×(List Int)×(List gZ))⊕(bC×Int×(List af)×Int×(List Int)×Int×(List Int)×(List gZ))):=fun (v56,m57,m58,m59,m60,m61,m62,m63,m64)=>
 cond (decide (v56<(x10.c9.length:Int)))
  ((idx x10.c9 v56).bind fun x65=>
   (mT fu n1 x65 s2.aR.At).bind fun ((r66,r67):gZ×Bool)=>
   (cond r67 (some r12) (some false)).bind fun (v68:Bool)=>
   (cond v68
     (((bY fu r66 m57).bind fun ((r69,r70,r71,r72):Bool×Int×Int×bC)=>
      (bq (r69=false)).bind fun _=>
      uj ((iu r72.es (Int.toNat r70) ((Int.toNat r71)+0)).bind fun p73=>
      (bY fu r66 r72).bind fun ((r74,r75,r76,r77):Bool×Int×Int×bC)=>
      (bq (r74=false)).bind fun _=>
      (iu r77.es (Int.toNat r75) ((Int.toNat r76)+1)).bind fun p78=>
      (two bd fu ((0:Nat):Int) ((2:Nat):Int) ((p73.1:Nat):Int) (((List.length p73.2):Nat):Int) ((p78.1:Nat):Int) (((List.length p78.2):Nat):Int) r77 m58 m59 m60 m61 m62 m63).bind fun ((r79,r80,r81,r82,r83,r84,r85):bC×Int×(List af)×Int×(List Int)×Int×(List Int))=>
      some (r79,r80,r81,r82,r83,r84,r85)) ((bY fu r66 r72).bind fun ((r73,r74,r75,r76):Bool×Int×Int×bC)=>
      (bq (r73=false)).bind fun _=>
      uj ((iu r76.es (Int.toNat r70) ((Int.toNat r71)+0)).bind fun p77=>
      (iu r76.es (Int.toNat r74) ((Int.toNat r75)+1)).bind fun p78=>
      (two bd fu ((0:Nat):Int) ((2:Nat):Int) ((p77.1:Nat):Int) (((List.length p77.2):Nat):Int) ((p78.1:Nat):Int) (((List.length p78.2):Nat):Int) r76 m58 m59 m60 m61 m62 m63).bind fun ((r79,r80,r81,r82,r83,r84,r85):bC×Int×(List af)×Int×(List Int)×Int×(List Int))=>
      some (r79,r80,r81,r82,r83,r84,r85)) ((iu r76.es (Int.toNat r74) ((Int.toNat r75)+1)).bind fun p77=>
      (iu r76.es (Int.toNat r70) ((Int.toNat r71)+0)).bind fun p78=>
      (two bd fu ((0:Nat):Int) ((2:Nat):Int) ((p78.1:Nat):Int) (((List.length p78.2):Nat):Int) ((p77.1:Nat):Int) (((List.length p77.2):Nat):Int) r76 m58 m59 m60 m61 m62 m63).bind fun ((r79,r80,r81,r82,r83,r84,r85):bC×Int×(List af)×Int×(List Int)×Int×(List Int))=>
      some (r79,r80,r81,r82,r83,r84,r85)))).bind fun ((m86,m87,m88,m89,m90,m91,m92):bC×Int×(List af)×Int×(List Int)×Int×(List Int))=>
     (bq (m64.length+[r66].length≤maxLen∧(m64.length+[r66].length)*16≤140737488355328)).bind fun _=>
     some (m86,m87,m88,m89,m90,m91,m92,m64++[r66]))
     (some (m57,m58,m59,m60,m61,m62,m63,m64))).bind fun ((m93,m94,m95,m96,m97,m98,m99,m100):bC×Int×(List af)×Int×(List Int)×Int×(List Int)×(List gZ))=>
   some (.inl (IntKind.wrap .i64 (v56+1),m93,m94,m95,m96,m97,m98,m99,m100)))
  (some (.inr (m57,m58,m59,m60,m61,m62,m63,m64)))
def qC (fu:Nat) (s2:af) (m108:List gZ):Int×bC→Option ((Int×bC)⊕bC):=fun (v136,m137)=>
 cond (decide (v136<(m108.length:Int)))
  ((idx m108 v136).bind fun x138=>
   (uj ((bY fu x138 m137).bind fun ((r139,r140,r141,r142):Bool×Int×Int×bC)=>
    uj ((bY fu x138 r142).bind fun ((r143,r144,r145,r146):Bool×Int×Int×bC)=>
    (bq (r143=false)).bind fun _=>
    vu ((iu r146.es (Int.toNat r144) ((Int.toNat r145)+2)).bind fun p147=>
    (pP r146 p147.1 (List.length p147.2) s2.number 8).bind fun m148=>
    (bq (r139=false)).bind fun _=>
    (j5 m148 (Int.toNat r140) ((Int.toNat r141)+2) r146.n ((List.length p147.2)+1)).bind fun m149=>
    some m149)) ((bY fu x138 r142).bind fun ((r143,r144,r145,r146):Bool×Int×Int×bC)=>
    (bq (r143=false)).bind fun _=>
    (iu r146.es (Int.toNat r144) ((Int.toNat r145)+2)).bind fun p147=>
    (pP r146 p147.1 (List.length p147.2) s2.number 8).bind fun m148=>
    (bq (r139=false)).bind fun _=>
    (j5 m148 (Int.toNat r140) ((Int.toNat r141)+2) r146.n ((List.length p147.2)+1)).bind fun m149=>
    some m149)) ((bY fu x138 m137).bind fun ((r139,r140,r141,r142):Bool×Int×Int×bC)=>
    (bY fu x138 r142).bind fun ((r143,r144,r145,r146):Bool×Int×Int×bC)=>
    (bq (r143=false)).bind fun _=>
    (iu r146.es (Int.toNat r144) ((Int.toNat r145)+2)).bind fun p147=>
    (pP r146 p147.1 (List.length p147.2) s2.number 8).bind fun m148=>
    (bq (r139=false)).bind fun _=>
    (j5 m148 (Int.toNat r140) ((Int.toNat r141)+2) r146.n ((List.length p147.2)+1)).bind fun m149=>
    some m149)).bind fun (m150:bC)=>
   some (.inl (IntKind.wrap .i64 (v136+1),m150)))
  (some (.inr m137))
def uE (bd:af→af→Option Bool) (fu:Nat) (n1:aO) (s2:af) (m3:bC) (m4:Int) (m5:List af) (m6:Int) (m7:List Int) (m8:Int) (m9:List Int):Option (bC×Int×(List af)×Int×(List Int)×Int×(List Int)):=
 (idx n1.cd s2.aR.Stmt).bind fun x10=>
 (mT fu n1 x10.cf s2.aR.At).bind fun ((r11,r12):gZ×Bool)=>
 (cond (x10.Do==9) (some true) (some (x10.Do==10))).bind fun (adds13:Bool)=>
 (cond r12
   ((bY fu r11 m3).bind fun ((r14,r15,r16,r17):Bool×Int×Int×bC)=>
    ((bq (r14=false)).bind fun _=>
     (bq (r14=false)).bind fun _=>
     uj ((iu r17.es (Int.toNat r15) ((Int.toNat r16)+0)).bind fun p18=>
     (iu r17.es (Int.toNat r15) ((Int.toNat r16)+2)).bind fun p19=>
     (two bd fu ((0:Nat):Int) ((2:Nat):Int) ((p18.1:Nat):Int) (((List.length p18.2):Nat):Int) ((p19.1:Nat):Int) (((List.length p19.2):Nat):Int) r17 m4 m5 m6 m7 m8 m9).bind fun ((r20,r21,r22,r23,r24,r25,r26):bC×Int×(List af)×Int×(List Int)×Int×(List Int))=>
     some (r20,r21,r22,r23,r24,r25,r26)) ((iu r17.es (Int.toNat r15) ((Int.toNat r16)+2)).bind fun p18=>
     (iu r17.es (Int.toNat r15) ((Int.toNat r16)+0)).bind fun p19=>
     (two bd fu ((0:Nat):Int) ((2:Nat):Int) ((p19.1:Nat):Int) (((List.length p19.2):Nat):Int) ((p18.1:Nat):Int) (((List.length p18.2):Nat):Int) r17 m4 m5 m6 m7 m8 m9).bind fun ((r20,r21,r22,r23,r24,r25,r26):bC×Int×(List af)×Int×(List Int)×Int×(List Int))=>
     some (r20,r21,r22,r23,r24,r25,r26))).bind fun ((m27,m28,m29,m30,m31,m32,m33):bC×Int×(List af)×Int×(List Int)×Int×(List Int))=>
    (cond (!adds13)
      ((bq (r14=false)).bind fun _=>
      (iu m27.es (Int.toNat r15) ((Int.toNat r16)+1)).bind fun p34=>
      (one bd fu ((0:Nat):Int) ((1:Nat):Int) ((p34.1:Nat):Int) (((List.length p34.2):Nat):Int) m27 m28 m29 m30 m31 m32 m33).bind fun ((r35,r36,r37,r38,r39,r40,r41):bC×Int×(List af)×Int×(List Int)×Int×(List Int))=>
      some (r35,r36,r37,r38,r39,r40,r41))
      (some (m27,m28,m29,m30,m31,m32,m33))).bind fun ((m42,m43,m44,m45,m46,m47,m48):bC×Int×(List af)×Int×(List Int)×Int×(List Int))=>
    some (m42,m43,m44,m45,m46,m47,m48))
   (some (m3,m4,m5,m6,m7,m8,m9))).bind fun ((m49,m50,m51,m52,m53,m54,m55):bC×Int×(List af)×Int×(List Int)×Int×(List Int))=>
 (aB (mS bd fu n1 s2 x10 r12) fu (0,m49,m50,m51,m52,m53,m54,m55,([]:List gZ))).bind fun ((m101,m102,m103,m104,m105,m106,m107,m108):bC×Int×(List af)×Int×(List Int)×Int×(List Int)×(List gZ))=>
 (cond r12 (some adds13) (some false)).bind fun (v109:Bool)=>
 (cond v109
   ((uj ((bY fu r11 m101).bind fun ((r110,r111,r112,r113):Bool×Int×Int×bC)=>
     uj ((bY fu r11 r113).bind fun ((r114,r115,r116,r117):Bool×Int×Int×bC)=>
     (bq (r114=false)).bind fun _=>
     vu ((iu r117.es (Int.toNat r115) ((Int.toNat r116)+1)).bind fun p118=>
     (pP r117 p118.1 (List.length p118.2) s2.number 8).bind fun m119=>
     (bq (r110=false)).bind fun _=>
     (j5 m119 (Int.toNat r111) ((Int.toNat r112)+1) r117.n ((List.length p118.2)+1)).bind fun m120=>
     some m120)) ((bY fu r11 r113).bind fun ((r114,r115,r116,r117):Bool×Int×Int×bC)=>
     (bq (r114=false)).bind fun _=>
     (iu r117.es (Int.toNat r115) ((Int.toNat r116)+1)).bind fun p118=>
     (pP r117 p118.1 (List.length p118.2) s2.number 8).bind fun m119=>
     (bq (r110=false)).bind fun _=>
     (j5 m119 (Int.toNat r111) ((Int.toNat r112)+1) r117.n ((List.length p118.2)+1)).bind fun m120=>
     some m120)) ((bY fu r11 m101).bind fun ((r110,r111,r112,r113):Bool×Int×Int×bC)=>
     (bY fu r11 r113).bind fun ((r114,r115,r116,r117):Bool×Int×Int×bC)=>
     (bq (r114=false)).bind fun _=>
     (iu r117.es (Int.toNat r115) ((Int.toNat r116)+1)).bind fun p118=>
     (pP r117 p118.1 (List.length p118.2) s2.number 8).bind fun m119=>
     (bq (r110=false)).bind fun _=>
     (j5 m119 (Int.toNat r111) ((Int.toNat r112)+1) r117.n ((List.length p118.2)+1)).bind fun m120=>
     some m120)).bind fun (m121:bC)=>
    some m121)
   ((cond r12
      ((uj ((bY fu r11 m101).bind fun ((r122,r123,r124,r125):Bool×Int×Int×bC)=>
       uj ((bY fu r11 r125).bind fun ((r126,r127,r128,r129):Bool×Int×Int×bC)=>
       (bq (r126=false)).bind fun _=>
       vu ((iu r129.es (Int.toNat r127) ((Int.toNat r128)+0)).bind fun p130=>
       (pP r129 p130.1 (List.length p130.2) s2.number 8).bind fun m131=>
       (bq (r122=false)).bind fun _=>
       (j5 m131 (Int.toNat r123) ((Int.toNat r124)+0) r129.n ((List.length p130.2)+1)).bind fun m132=>
       some m132)) ((bY fu r11 r125).bind fun ((r126,r127,r128,r129):Bool×Int×Int×bC)=>
       (bq (r126=false)).bind fun _=>
       (iu r129.es (Int.toNat r127) ((Int.toNat r128)+0)).bind fun p130=>
       (pP r129 p130.1 (List.length p130.2) s2.number 8).bind fun m131=>
       (bq (r122=false)).bind fun _=>
       (j5 m131 (Int.toNat r123) ((Int.toNat r124)+0) r129.n ((List.length p130.2)+1)).bind fun m132=>
       some m132)) ((bY fu r11 m101).bind fun ((r122,r123,r124,r125):Bool×Int×Int×bC)=>
       (bY fu r11 r125).bind fun ((r126,r127,r128,r129):Bool×Int×Int×bC)=>
       (bq (r126=false)).bind fun _=>
       (iu r129.es (Int.toNat r127) ((Int.toNat r128)+0)).bind fun p130=>
       (pP r129 p130.1 (List.length p130.2) s2.number 8).bind fun m131=>
       (bq (r122=false)).bind fun _=>
       (j5 m131 (Int.toNat r123) ((Int.toNat r124)+0) r129.n ((List.length p130.2)+1)).bind fun m132=>
       some m132)).bind fun (m133:bC)=>
      some m133)
      (some m101)).bind fun (m134:bC)=>
    some m134)).bind fun (m135:bC)=>
 (aB (qC fu s2 m108) fu (0,m135)).bind fun (m151:bC)=>
 some (m151,m102,m103,m104,m105,m106,m107)
def rI (bd:af→af→Option Bool) (fu:Nat) (n1:aO) (r4:List af):Int×bC×(List af)×Bool×Int×(List Int)×Int×(List Int)→Option ((Int×bC×(List af)×Bool×Int×(List Int)×Int×(List Int))⊕(Ex (bC×(List af)×Bool×Int×(List Int)×Int×(List Int)) (gz×Int))):=fun (v5,m6,m7,m8,m9,m10,m11,m12)=>
 cond (decide (v5<(r4.length:Int)))
  ((idx r4 v5).bind fun x13=>
   (uE bd fu n1 (⟨(⟨x13.aR.Stmt,x13.aR.At⟩:bD),x13.number,x13.time⟩:af) m6 (-1) m7 x13.aR.Stmt x13.aR.At x13.number x13.time).bind fun ((r14,r15,r16,r17,r18,r19,r20):bC×Int×(List af)×Int×(List Int)×Int×(List Int))=>
   cond (decide (r15≥0))
    ((idx r16 r15).bind fun x21=>
    some (.inr (.ret ((⟨true,(⟨x21.aR.Stmt,x21.aR.At⟩:bD),(⟨r17,r18⟩:bD)⟩:gz),0))))
    (some (.inl (IntKind.wrap .i64 (v5+1),r14,r16,m8,m9,m10,m11,m12))))
  (some (.inr (.dS (m6,m7,m8,m9,m10,m11,m12))))
def search (bd:af→af→Option Bool) (fu:Nat) (n1:aO) (times2:List (List aT)):Option (gz×Int):=
 (iw fu n1 times2).bind fun ((r3,r4):Int×(List af))=>
 cond (r3 !=0)
  (some ((⟨false,(⟨0,([]:List Int)⟩:bD),(⟨0,([]:List Int)⟩:bD)⟩:gz),r3))
  (eS (fun r=>r) (aB (rI bd fu n1 r4) fu (0,(⟨0,[],none⟩:bC),r4,false,0,([]:List Int),0,([]:List Int)):Option (Ex (bC×(List af)×Bool×Int×(List Int)×Int×(List Int)) (gz×Int))) fun ((m22,m23,m24,m25,m26,m27,m28):bC×(List af)×Bool×Int×(List Int)×Int×(List Int))=>
   some ((⟨false,(⟨0,([]:List Int)⟩:bD),(⟨0,([]:List Int)⟩:bD)⟩:gz),0))
end Gn
namespace F
def A6 (fu:Nat):=Gn.Gu (gU fu) fu
def Cn (fu:Nat):=Gn.two (gU fu) fu
def Cm (fu:Nat):=Gn.one (gU fu) fu
def Fg (fu:Nat):=Gn.uE (gU fu) fu
def tI (fu:Nat):=Gn.search (gU fu) fu
def rq (fu:Nat) (n1:aO) (times2:List (List aT)):Option (gz×Int):=
 (tI fu n1 times2).bind fun ((r3,r4):gz×Int)=>
 some ((⟨r3.Any,(⟨r3.A.Stmt,r3.A.At⟩:bD),r3.B⟩:gz),r4)
def iC (fu:Nat) (a1:af) (b2:af):Option (Bool):=
 (mR fu a1.time b2.time).bind fun (r3:Bool)=>
 some r3
def A5 (fu:Nat):=Gn.Gu (iC fu) fu
def Ck (fu:Nat):=Gn.two (iC fu) fu
def Cj (fu:Nat):=Gn.one (iC fu) fu
def Ff (fu:Nat):=Gn.uE (iC fu) fu
def qG (fu:Nat):=Gn.search (iC fu) fu
def sR (fu:Nat) (n1:aO) (times2:List (List aT)):Option (gz×Int):=
 (qG fu n1 times2).bind fun ((r3,r4):gz×Int)=>
 some ((⟨r3.Any,(⟨r3.A.Stmt,r3.A.At⟩:bD),r3.B⟩:gz),r4)
def pO (fu:Nat) (v1:List Int) (m2:List Int) (m3:List aT) (m4:Int) (m5:Int) (m6:Int) (m7:List Int) (m8:Int) (m9:List bF) (m10:List (List Int)):Option ((List Int)×(List aT)×Int×Int×Int×(List Int)×Int×(List bF)×(List (List Int))):=
 (ld fu (⟨(⟨m2,m3⟩:bp),m4,m5,(⟨m6,(⟨m7,m8⟩:aT)⟩:bF),m9⟩:dh) v1 m10).bind fun (r11:List (List Int))=>
 bif Nat.beq (List.length r11) (List.length m10) then
 some (m2,m3,m4,m5,m6,m7,m8,m9,r11)
 else none
def lI (self:bp→Int→(List Int)→(List Int)→(List aT)→Int→Int→Int→(List Int)→Int→(List bF)→(List (List Int))→Option (Bool×(List Int)×(List Int)×(List aT)×Int×Int×Int×(List Int)×Int×(List bF)×(List (List Int)))) (fu:Nat) (p1:bp) (k2:Int):(List Int)×(List Int)×(List aT)×Int×Int×Int×(List Int)×Int×(List bF)×(List (List Int))→Option (((List Int)×(List Int)×(List aT)×Int×Int×Int×(List Int)×Int×(List bF)×(List (List Int)))⊕(Ex ((List Int)×(List Int)×(List aT)×Int×Int×Int×(List Int)×Int×(List bF)×(List (List Int))) (Bool×(List Int)×(List Int)×(List aT)×Int×Int×Int×(List Int)×Int×(List bF)×(List (List Int))))):=fun (m25,m26,m27,m28,m29,m30,m31,m32,m33,m34)=>
 (idx m25 k2).bind fun x50=>
 (idx p1.ba k2).bind fun x51=>
 cond (decide (x50<x51))
  ((self p1 (IntKind.wrap .i64 (k2+1)) m25 m26 m27 m28 m29 m30 m31 m32 m33 m34).bind fun ((r52,r53,r54,r55,r56,r57,r58,r59,r60,r61,r62):Bool×(List Int)×(List Int)×(List aT)×Int×Int×Int×(List Int)×Int×(List bF)×(List (List Int)))=>
   bif Nat.beq (List.length r53) (List.length m25) then
   bif Nat.beq (List.length r62) (List.length m34) then
   cond (!r52)
    (some (.inr (.ret (false,r53,r54,r55,r56,r57,r58,r59,r60,r61,r62))))
    ((idx r53 k2).bind fun x63=>
    (idx r53 k2).bind fun x64=>
    some (.inl (r53.set k2.toNat (IntKind.wrap .i64 (x63+1)),r54,r55,r56,r57,r58,r59,r60,r61,r62)))
   else none
   else none)
  (some (.inr (.dS (m25,m26,m27,m28,m29,m30,m31,m32,m33,m34))))
def pE (self:bp→Int→(List Int)→(List Int)→(List aT)→Int→Int→Int→(List Int)→Int→(List bF)→(List (List Int))→Option (Bool×(List Int)×(List Int)×(List aT)×Int×Int×Int×(List Int)×Int×(List bF)×(List (List Int)))) (fu:Nat) (p1:bp) (k2:Int) (m3:List Int) (m4:List Int) (m5:List aT) (m6:Int) (m7:Int) (m8:Int) (m9:List Int) (m10:Int) (m11:List bF) (m12:List (List Int)):Option (Bool×(List Int)×(List Int)×(List aT)×Int×Int×Int×(List Int)×Int×(List bF)×(List (List Int))):=
 (kI fu p1 m3 k2).bind fun (r13:Bool)=>
 cond r13
  (some (true,m3,m4,m5,m6,m7,m8,m9,m10,m11,m12))
  (cond (k2==(p1.ba.length:Int))
    ((kZ fu m3).bind fun (r14:List Int)=>
    (pO fu r14 m4 m5 m6 m7 m8 m9 m10 m11 m12).bind fun ((r15,r16,r17,r18,r19,r20,r21,r22,r23):(List Int)×(List aT)×Int×Int×Int×(List Int)×Int×(List bF)×(List (List Int)))=>
    bif Nat.beq (List.length r23) (List.length m12) then
    some (true,m3,r15,r16,r17,r18,r19,r20,r21,r22,r23)
    else none)
    ((idx m3 k2).bind fun x24=>
    eS (fun r=>r) (aB (lI self fu p1 k2) fu (m3.set k2.toNat 0,m4,m5,m6,m7,m8,m9,m10,m11,m12):Option (Ex ((List Int)×(List Int)×(List aT)×Int×Int×Int×(List Int)×Int×(List bF)×(List (List Int))) (Bool×(List Int)×(List Int)×(List aT)×Int×Int×Int×(List Int)×Int×(List bF)×(List (List Int))))) fun ((m65,m66,m67,m68,m69,m70,m71,m72,m73,m74):(List Int)×(List Int)×(List aT)×Int×Int×Int×(List Int)×Int×(List bF)×(List (List Int)))=>
    some (true,m65,m66,m67,m68,m69,m70,m71,m72,m73,m74)))
def jA:Nat→bp→Int→(List Int)→(List Int)→(List aT)→Int→Int→Int→(List Int)→Int→(List bF)→(List (List Int))→Option (Bool×(List Int)×(List Int)×(List aT)×Int×Int×Int×(List Int)×Int×(List bF)×(List (List Int)))
 | 0=>fun _ _ _ _ _ _ _ _ _ _ _ _=>none
 | fu+1=>pE (jA fu) (fu+1)
def nB (fu:Nat) (m1:List Int) (m2:List aT) (m3:List Int) (m4:List aT) (m5:Int) (m6:Int) (m7:Int) (m8:List Int) (m9:Int) (m10:List bF) (m11:List (List Int)):Option ((List Int)×(List aT)×(List Int)×(List aT)×Int×Int×Int×(List Int)×Int×(List bF)×(List (List Int))):=
 (je fu (⟨m1,m2⟩:bp)).bind fun (r12:Int)=>
 (cond (r12==0)
   ((bq ((0:Int)≤(m1.length:Int)∧(m1.length:Int)≤(m1.length:Int)∧((8:Nat):Int)*(m1.length:Int)≤281474976710656∧(m1.length:Int)≤9223372036854775807)).bind fun _=>
    (jA fu (⟨m1,m2⟩:bp) 0 (List.replicate (Int.toNat (m1.length:Int)) (0:Int)) m3 m4 m5 m6 m7 m8 m9 m10 m11).bind fun ((r13,r14,r15,r16,r17,r18,r19,r20,r21,r22,r23):Bool×(List Int)×(List Int)×(List aT)×Int×Int×Int×(List Int)×Int×(List bF)×(List (List Int)))=>
    bif Nat.beq (List.length r14) (List.length (List.replicate (Int.toNat (m1.length:Int)) (0:Int))) then
    bif Nat.beq (List.length r23) (List.length m11) then
    some (r15,r16,r17,r18,r19,r20,r21,r22,r23)
    else none
    else none)
   (some (m3,m4,m5,m6,m7,m8,m9,m10,m11))).bind fun ((m24,m25,m26,m27,m28,m29,m30,m31,m32):(List Int)×(List aT)×Int×Int×Int×(List Int)×Int×(List bF)×(List (List Int)))=>
 some (m1,m2,m24,m25,m26,m27,m28,m29,m30,m31,m32)
def oo (fu:Nat) (n1:aO):Int×(List (List Int))→Option ((Int×(List (List Int)))⊕(List (List Int))):=fun (v6,m7)=>
 cond (decide (v6<(n1.cd.length:Int)))
  ((idx n1.cd v6).bind fun x8=>
   (pG fu x8.bI).bind fun ((r9,r10):(List Int)×(List aT))=>
   (nB fu r9 r10 x8.bI.ba x8.bI.Rows x8.Do x8.Value x8.cf.Array x8.cf.At.cZ x8.cf.At.Const x8.c9 m7).bind fun ((r11,r12,r13,r14,r15,r16,r17,r18,r19,r20,r21):(List Int)×(List aT)×(List Int)×(List aT)×Int×Int×Int×(List Int)×Int×(List bF)×(List (List Int)))=>
   bif Nat.beq (List.length r21) (List.length m7) then
   some (.inl (IntKind.wrap .i64 (v6+1),r21))
   else none)
  (some (.inr m7))
def mW (fu:Nat) (n1:aO) (mem2:List (List Int)):Option ((List (List Int))×Int):=
 (pN fu n1).bind fun (r3:Int)=>
 cond (r3 !=0)
  (some (([]:List (List Int)),r3))
  ((gO fu n1 mem2).bind fun ((r4,r5):Int×(List (List Int)))=>
   cond (r4 !=0)
    (some (([]:List (List Int)),r4))
    ((aB (oo fu n1) fu (0,r5)).bind fun (m22:List (List Int))=>
    some (m22,0)))
def gY (fu:Nat) (a1:List (List Int)) (b2:List (List Int)) (v3:Int) (x6:List Int):Int→Option (Int⊕(Ex Unit (Int⊕(Ex Unit Bool)))):=fun v7=>
 cond (decide (v7<(x6.length:Int)))
  ((idx a1 v3).bind fun x8=>
   (idx x8 v7).bind fun x9=>
   (idx b2 v3).bind fun x10=>
   (idx x10 v7).bind fun x11=>
   cond (x9 !=x11)
    (some (.inr (.ret (.inr (.ret false)))))
    (some (.inl (IntKind.wrap .i64 (v7+1)))))
  (some (.inr (.dS ())))
def gX (fu:Nat) (a1:List (List Int)) (b2:List (List Int)):Int→Option (Int⊕(Ex Unit Bool)):=fun v3=>
 cond (decide (v3<(a1.length:Int)))
  ((idx a1 v3).bind fun x4=>
   (idx b2 v3).bind fun x5=>
   cond ((x4.length:Int) !=(x5.length:Int))
    (some (.inr (.ret false)))
    ((idx a1 v3).bind fun x6=>
    eS (fun r=>r) (aB (gY fu a1 b2 v3 x6) fu 0:Option (Ex Unit (Int⊕(Ex Unit Bool)))) fun (_:Unit)=>
    some (.inl (IntKind.wrap .i64 (v3+1)))))
  (some (.inr (.dS ())))
def gw (fu:Nat) (a1:List (List Int)) (b2:List (List Int)):Option (Bool):=
 cond ((a1.length:Int) !=(b2.length:Int))
  (some false)
  (eS (fun r=>r) (aB (gX fu a1 b2) fu 0:Option (Ex Unit Bool)) fun (_:Unit)=>
   some true)
def iS (fu:Nat) (n1:aO) (times2:List (List aT)) (mem3:List (List Int)) (mix4:List Int):Option (Bool):=
 (jl fu).bind fun (r5:Bool)=>
 cond (!r5)
  (some false)
  ((rq fu n1 times2).bind fun ((r6,r7):gz×Int)=>
   (cond (r7 !=0) (some true) (some r6.Any)).bind fun (v8:Bool)=>
   cond v8
    (some true)
    ((sR fu n1 times2).bind fun ((r9,r10):gz×Int)=>
    cond (r10 !=0)
     (some false)
     (cond r9.Any
       (some true)
       ((mW fu n1 mem3).bind fun ((r11,r12):(List (List Int))×Int)=>
       cond (r12 !=0)
        (some true)
        ((jP fu n1 times2 mem3 mix4).bind fun ((r13,r14):(List (List Int))×Int)=>
         (cond (r14==0) ((gw fu r11 r13).bind fun (r15:Bool)=>
          some r15) (some false)).bind fun (v16:Bool)=>
         some v16)))))
end F
end
end Go.DN
