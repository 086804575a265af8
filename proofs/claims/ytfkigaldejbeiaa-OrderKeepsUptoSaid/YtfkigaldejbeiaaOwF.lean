/-
  The functions, as Lean functions dz data.
-/
import Derived.Test.YtfkigaldejbeiaaOwS
set_option maxRecDepth 20000
set_option linter.unusedVariables false
set_option linter.unusedSectionVars false
set_option linter.unusedSimpArgs false
namespace Go.DN
open Go.AM
noncomputable section
namespace F
def mR (fu:Nat) (s1:Int):Option (Bool):=
 (cond (decide (s1<0)) (some true) (some (decide (s1>65536)))).bind fun (v2:Bool)=>
 some v2
def qg (fu:Nat) (s1:List Int):Int→Option (Int⊕(Ex Unit Int)):=fun v2=>
 cond (decide (v2<(s1.length:Int)))
  ((idx s1 v2).bind fun x3=>
   (mR fu x3).bind fun (r4:Bool)=>
   cond r4
    (some (.inr (.ret v2)))
    (some (.inl (IntKind.wrap .i64 (v2+1)))))
  (some (.inr (.dS ())))
def lB (fu:Nat) (s1:List Int):Option (Int):=
 eR (fun r=>r) (aB (qg fu s1) fu 0:Option (Ex Unit Int)) fun (_:Unit)=>
 some (-1)
def iQ (fu:Nat) (s1:List Int):Option (Bool):=
 (lB fu s1).bind fun (r2:Int)=>
 some (decide (r2≥0))
def k7 (fu:Nat) (n1:Int):Option (Bool):=
 (cond (decide (n1<(-1048576))) (some true) (some (decide (n1>1048576)))).bind fun (v2:Bool)=>
 some v2
def oT (fu:Nat) (s1:List Int):Int→Option (Int⊕(Ex Unit Int)):=fun v2=>
 cond (decide (v2<(s1.length:Int)))
  ((idx s1 v2).bind fun x3=>
   (k7 fu x3).bind fun (r4:Bool)=>
   cond r4
    (some (.inr (.ret v2)))
    (some (.inl (IntKind.wrap .i64 (v2+1)))))
  (some (.inr (.dS ())))
def kC (fu:Nat) (s1:List Int):Option (Int):=
 eR (fun r=>r) (aB (oT fu s1) fu 0:Option (Ex Unit Int)) fun (_:Unit)=>
 some (-1)
def g9 (fu:Nat) (s1:List Int):Option (Bool):=
 (kC fu s1).bind fun (r2:Int)=>
 some (decide (r2≥0))
def nu (fu:Nat) (r1:aS) (vars2:Int):Option (Int):=
 cond ((r1.cZ.length:Int) !=vars2)
  (some 6)
  (((k7 fu r1.Const).bind fun (r3:Bool)=>
    cond r3 (some true) ((g9 fu r1.cZ).bind fun (r4:Bool)=>
    some r4)).bind fun (v5:Bool)=>
   cond v5
    (some 4)
    (some 0))
def my (fu:Nat) (p1:bp):Int→Option (Int⊕(Ex Unit Int)):=fun v2=>
 cond (decide (v2<(p1.ba.length:Int)))
  ((idx p1.ba v2).bind fun x3=>
   (cond (decide (x3<0)) (some true) (some (decide (x3>4096)))).bind fun (v4:Bool)=>
   cond v4
    (some (.inr (.ret 4)))
    (some (.inl (IntKind.wrap .i64 (v2+1)))))
  (some (.inr (.dS ())))
def mw (fu:Nat) (p1:bp):Int×Int→Option ((Int×Int)⊕Int):=fun (n5,v6)=>
 cond (decide (v6<(p1.ba.length:Int)))
  ((idx p1.ba v6).bind fun x7=>
   some (.inl (IntKind.wrap .i64 (n5*x7),IntKind.wrap .i64 (v6+1))))
  (some (.inr n5))
def mu (fu:Nat) (p1:bp):Int→Option (Int⊕(Ex Unit Int)):=fun v9=>
 cond (decide (v9<(p1.Rows.length:Int)))
  ((idx p1.Rows v9).bind fun x10=>
   (nu fu x10 (p1.ba.length:Int)).bind fun (r11:Int)=>
   cond (r11 !=0)
    (some (.inr (.ret r11)))
    (some (.inl (IntKind.wrap .i64 (v9+1)))))
  (some (.inr (.dS ())))
def jb (fu:Nat) (p1:bp):Option (Int):=
 cond (decide ((p1.ba.length:Int)>4))
  (some 3)
  (eR (fun r=>r) (aB (my fu p1) fu 0:Option (Ex Unit Int)) fun (_:Unit)=>
   (aB (mw fu p1) fu (1,0)).bind fun (n8:Int)=>
   cond (decide (n8>4096))
    (some 5)
    (cond (decide ((p1.Rows.length:Int)>8))
     (some 2)
     (eR (fun r=>r) (aB (mu fu p1) fu 0:Option (Ex Unit Int)) fun (_:Unit)=>
      some 0)))
def um (fu:Nat) (do1:Int):Option (Int):=
 cond (do1==1)
  (some 0)
  ((cond (do1==2)
     (some (do1==2))
     (some (do1==9))).bind fun (v2:Bool)=>
   cond v2
    (some 1)
    ((cond (do1==3)
      (some (do1==3))
      ((cond (do1==4)
         (some (do1==4))
         ((cond (do1==5)
           (some (do1==5))
           ((cond (do1==6)
              (some (do1==6))
              ((cond (do1==7)
                (some (do1==7))
                (some (do1==10))).bind fun (v3:Bool)=>
              some v3)).bind fun (v4:Bool)=>
            some v4)).bind fun (v5:Bool)=>
         some v5)).bind fun (v6:Bool)=>
       some v6)).bind fun (v7:Bool)=>
    cond v7
     (some 2)
     (cond (do1==8)
       (some 3)
       (some (-1)))))
def kP (fu:Nat) (n1:aP) (s2:dh):Int→Option (Int⊕(Ex Unit Int)):=fun v5=>
 cond (decide (v5<(([s2.cf]++s2.c9).length:Int)))
  ((idx ([s2.cf]++s2.c9) v5).bind fun x6=>
   (cond (decide (x6.Array<0)) (some true) (some (decide (x6.Array≥(n1.cA.length:Int))))).bind fun (v7:Bool)=>
   cond v7
    (some (.inr (.ret 4)))
    ((nu fu x6.At (s2.bI.ba.length:Int)).bind fun (r8:Int)=>
    cond (r8 !=0)
     (some (.inr (.ret r8)))
     (some (.inl (IntKind.wrap .i64 (v5+1))))))
  (some (.inr (.dS ())))
def nz (fu:Nat) (n1:aP) (s2:dh):Option (Int):=
 (jb fu s2.bI).bind fun (r3:Int)=>
 cond (r3 !=0)
  (some r3)
  ((um fu s2.Do).bind fun (r4:Int)=>
   cond (decide (r4<0))
    (some 1)
    (cond (r4 !=(s2.c9.length:Int))
     (some 2)
     ((bq ([s2.cf].length+s2.c9.length≤maxLen∧([s2.cf].length+s2.c9.length)*40≤140737488355328)).bind fun _=>
      eR (fun r=>r) (aB (kP fu n1 s2) fu 0:Option (Ex Unit Int)) fun (_:Unit)=>
      some 0)))
def ox (fu:Nat) (n1:aP):Int→Option (Int⊕(Ex Unit Int)):=fun v3=>
 cond (decide (v3<(n1.cd.length:Int)))
  ((idx n1.cd v3).bind fun x4=>
   (nz fu n1 (⟨(⟨x4.bI.ba,x4.bI.Rows⟩:bp),x4.Do,x4.Value,(⟨x4.cf.Array,(⟨x4.cf.At.cZ,x4.cf.At.Const⟩:aS)⟩:bF),x4.c9⟩:dh)).bind fun (r5:Int)=>
   cond (r5 !=0)
    (some (.inr (.ret r5)))
    (some (.inl (IntKind.wrap .i64 (v3+1)))))
  (some (.inr (.dS ())))
def pD (fu:Nat) (n1:aP):Option (Int):=
 cond (decide ((n1.cd.length:Int)>256))
  (some 2)
  ((iQ fu n1.cA).bind fun (r2:Bool)=>
   cond r2
    (some 4)
    (eR (fun r=>r) (aB (ox fu n1) fu 0:Option (Ex Unit Int)) fun (_:Unit)=>
    some 0))
def qx (fu:Nat) (n1:aP) (v4:Int) (x5:List aS):Int→Option (Int⊕(Ex Unit (Int⊕(Ex Unit Int)))):=fun v6=>
 cond (decide (v6<(x5.length:Int)))
  ((idx x5 v6).bind fun x7=>
   (idx n1.cd v4).bind fun x8=>
   (nu fu x7 (x8.bI.ba.length:Int)).bind fun (r9:Int)=>
   cond (r9 !=0)
    (some (.inr (.ret (.inr (.ret r9)))))
    (some (.inl (IntKind.wrap .i64 (v6+1)))))
  (some (.inr (.dS ())))
def nw (fu:Nat) (n1:aP) (times2:List (List aS)):Int→Option (Int⊕(Ex Unit Int)):=fun v4=>
 cond (decide (v4<(times2.length:Int)))
  ((idx times2 v4).bind fun x5=>
   cond (decide ((x5.length:Int)>8))
    (some (.inr (.ret 2)))
    (eR (fun r=>r) (aB (qx fu n1 v4 x5) fu 0:Option (Ex Unit (Int⊕(Ex Unit Int)))) fun (_:Unit)=>
    some (.inl (IntKind.wrap .i64 (v4+1)))))
  (some (.inr (.dS ())))
def od (fu:Nat) (n1:aP) (times2:List (List aS)):Option (Int):=
 (pD fu n1).bind fun (r3:Int)=>
 cond (r3 !=0)
  (some r3)
  (cond ((times2.length:Int) !=(n1.cd.length:Int))
    (some 2)
    (eR (fun r=>r) (aB (nw fu n1 times2) fu 0:Option (Ex Unit Int)) fun (_:Unit)=>
    some 0))
def pw (fu:Nat) (p1:bp):Option ((List Int)×(List aS)):=
 some (p1.ba,p1.Rows)
def ja (fu:Nat) (p1:bp) (x2:List Int) (k3:Int) (x5:aS):Int×Int→Option ((Int×Int)⊕Int):=fun (n6,v7)=>
 cond (decide (v7<(x5.cZ.length:Int)))
  ((idx x5.cZ v7).bind fun x8=>
   (cond (decide (v7<k3))
     ((idx x2 v7).bind fun x9=>
     some (IntKind.wrap .i64 (n6+(IntKind.wrap .i64 (x8*x9)))))
     ((cond (decide (x8>0))
       ((idx p1.ba v7).bind fun x10=>
        some (IntKind.wrap .i64 (n6+(IntKind.wrap .i64 (x8*(IntKind.wrap .i64 (x10-1)))))))
       (some n6)).bind fun (n11:Int)=>
     some n11)).bind fun (n12:Int)=>
   some (.inl (n12,IntKind.wrap .i64 (v7+1))))
  (some (.inr n6))
def kF (fu:Nat) (p1:bp) (x2:List Int) (k3:Int):Int→Option (Int⊕(Ex Unit Bool)):=fun v4=>
 cond (decide (v4<(p1.Rows.length:Int)))
  ((idx p1.Rows v4).bind fun x5=>
   (aB (ja fu p1 x2 k3 x5) fu (x5.Const,0)).bind fun (n13:Int)=>
   cond (decide (n13<0))
    (some (.inr (.ret true)))
    (some (.inl (IntKind.wrap .i64 (v4+1)))))
  (some (.inr (.dS ())))
def kG (fu:Nat) (p1:bp) (x2:List Int) (k3:Int):Option (Bool):=
 eR (fun r=>r) (aB (kF fu p1 x2 k3) fu 0:Option (Ex Unit Bool)) fun (_:Unit)=>
 some false
def kX (fu:Nat) (s1:List Int):Option (List Int):=
 rR (s1.length:Int) (some ([]:List Int)) ((bq (([]:List Int).length+s1.length≤maxLen∧(([]:List Int).length+s1.length)*8≤140737488355328)).bind fun _=>
 some (([]:List Int)++s1))
def pu (fu:Nat) (r1:aS) (x2:List Int):Int×Int→Option ((Int×Int)⊕Int):=fun (n3,v4)=>
 cond (decide (v4<(r1.cZ.length:Int)))
  ((idx r1.cZ v4).bind fun x5=>
   (idx x2 v4).bind fun x6=>
   some (.inl (IntKind.wrap .i64 (n3+(IntKind.wrap .i64 (x5*x6))),IntKind.wrap .i64 (v4+1))))
  (some (.inr n3))
def oX (fu:Nat) (r1:aS) (x2:List Int):Option (Int):=
 (aB (pu fu r1 x2) fu (r1.Const,0)).bind fun (n7:Int)=>
 some n7
def jc (fu:Nat) (v1:List Int) (x8:List aS):Int×(List Int)→Option ((Int×(List Int))⊕(List Int)):=fun (v9,m10)=>
 cond (decide (v9<(x8.length:Int)))
  ((idx x8 v9).bind fun x11=>
   (oX fu x11 v1).bind fun (r12:Int)=>
   (idx m10 v9).bind fun x13=>
   some (.inl (IntKind.wrap .i64 (v9+1),m10.set v9.toNat r12)))
  (some (.inr m10))
def mz (fu:Nat) (v1:List Int) (m2:List (List aS)) (m3:Int) (m4:Int) (m5:Int) (m6:List ae) (m7:List ae):Option (Int×(List (List aS))×Int×Int×Int×(List ae)×(List ae)):=
 cond ((m7.length:Int)==1024)
  (some (2,m2,5,m4,m5,([]:List ae),m7))
  ((bq ((0:Int)≤m4∧m4≤m4∧((8:Nat):Int)*m4≤281474976710656∧m4≤9223372036854775807)).bind fun _=>
   (idx m2 m5).bind fun x8=>
   (aB (jc fu v1 x8) fu (0,List.replicate (Int.toNat m4) (0:Int))).bind fun (m14:List Int)=>
   (bq (m7.length+[(⟨(⟨m5,v1⟩:bE),(m7.length:Int),m14⟩:ae)].length≤maxLen∧(m7.length+[(⟨(⟨m5,v1⟩:bE),(m7.length:Int),m14⟩:ae)].length)*64≤140737488355328)).bind fun _=>
   some (0,m2,m3,m4,m5,m6,m7++[(⟨(⟨m5,v1⟩:bE),(m7.length:Int),m14⟩:ae)]))
def lH (self:bp→Int→(List Int)→Int→(List (List aS))→Int→Int→Int→(List ae)→(List ae)→Option (Bool×(List Int)×Int×(List (List aS))×Int×Int×Int×(List ae)×(List ae))) (fu:Nat) (p1:bp) (k2:Int):(List Int)×Int×(List (List aS))×Int×Int×Int×(List ae)×(List ae)→Option (((List Int)×Int×(List (List aS))×Int×Int×Int×(List ae)×(List ae))⊕(Ex ((List Int)×Int×(List (List aS))×Int×Int×Int×(List ae)×(List ae)) (Bool×(List Int)×Int×(List (List aS))×Int×Int×Int×(List ae)×(List ae)))):=fun (m21,m22,m23,m24,m25,m26,m27,m28)=>
 (idx m21 k2).bind fun x42=>
 (idx p1.ba k2).bind fun x43=>
 cond (decide (x42<x43))
  ((self p1 (IntKind.wrap .i64 (k2+1)) m21 m22 m23 m24 m25 m26 m27 m28).bind fun ((r44,r45,r46,r47,r48,r49,r50,r51,r52):Bool×(List Int)×Int×(List (List aS))×Int×Int×Int×(List ae)×(List ae))=>
   bif Nat.beq (List.length r45) (List.length m21) then
   cond (!r44)
    (some (.inr (.ret (false,r45,r46,r47,r48,r49,r50,r51,r52))))
    ((idx r45 k2).bind fun x53=>
    (idx r45 k2).bind fun x54=>
    some (.inl (r45.set k2.toNat (IntKind.wrap .i64 (x53+1)),r46,r47,r48,r49,r50,r51,r52)))
   else none)
  (some (.inr (.dS (m21,m22,m23,m24,m25,m26,m27,m28))))
def kE (self:bp→Int→(List Int)→Int→(List (List aS))→Int→Int→Int→(List ae)→(List ae)→Option (Bool×(List Int)×Int×(List (List aS))×Int×Int×Int×(List ae)×(List ae))) (fu:Nat) (p1:bp) (k2:Int) (m3:List Int) (m4:Int) (m5:List (List aS)) (m6:Int) (m7:Int) (m8:Int) (m9:List ae) (m10:List ae):Option (Bool×(List Int)×Int×(List (List aS))×Int×Int×Int×(List ae)×(List ae)):=
 (kG fu p1 m3 k2).bind fun (r11:Bool)=>
 cond r11
  (some (true,m3,m4,m5,m6,m7,m8,m9,m10))
  (cond (k2==(p1.ba.length:Int))
    ((kX fu m3).bind fun (r12:List Int)=>
    (bq (m4=0)).bind fun _=>
    (mz fu r12 m5 m6 m7 m8 m9 m10).bind fun ((r13,r14,r15,r16,r17,r18,r19):Int×(List (List aS))×Int×Int×Int×(List ae)×(List ae))=>
    cond (r13==0)
     (some (true,m3,0,r14,r15,r16,r17,r18,r19))
     (some (false,m3,r13,r14,r15,r16,r17,r18,r19)))
    ((idx m3 k2).bind fun x20=>
    eR (fun r=>r) (aB (lH self fu p1 k2) fu (m3.set k2.toNat 0,m4,m5,m6,m7,m8,m9,m10):Option (Ex ((List Int)×Int×(List (List aS))×Int×Int×Int×(List ae)×(List ae)) (Bool×(List Int)×Int×(List (List aS))×Int×Int×Int×(List ae)×(List ae)))) fun ((m55,m56,m57,m58,m59,m60,m61,m62):(List Int)×Int×(List (List aS))×Int×Int×Int×(List ae)×(List ae))=>
    some (true,m55,m56,m57,m58,m59,m60,m61,m62)))
def gQ:Nat→bp→Int→(List Int)→Int→(List (List aS))→Int→Int→Int→(List ae)→(List ae)→Option (Bool×(List Int)×Int×(List (List aS))×Int×Int×Int×(List ae)×(List ae))
 | 0=>fun _ _ _ _ _ _ _ _ _ _=>none
 | fu+1=>kE (gQ fu) (fu+1)
def jW (fu:Nat) (m1:Int) (m2:List Int) (m3:List aS) (m4:List (List aS)) (m5:Int) (m6:Int) (m7:Int) (m8:List ae) (m9:List ae):Option (Int×(List Int)×(List aS)×(List (List aS))×Int×Int×Int×(List ae)×(List ae)):=
 (jb fu (⟨m2,m3⟩:bp)).bind fun (r10:Int)=>
 (cond (r10==0)
   ((bq ((0:Int)≤(m2.length:Int)∧(m2.length:Int)≤(m2.length:Int)∧((8:Nat):Int)*(m2.length:Int)≤281474976710656∧(m2.length:Int)≤9223372036854775807)).bind fun _=>
    (gQ fu (⟨m2,m3⟩:bp) 0 (List.replicate (Int.toNat (m2.length:Int)) (0:Int)) m1 m4 m5 m6 m7 m8 m9).bind fun ((r11,r12,r13,r14,r15,r16,r17,r18,r19):Bool×(List Int)×Int×(List (List aS))×Int×Int×Int×(List ae)×(List ae))=>
    bif Nat.beq (List.length r12) (List.length (List.replicate (Int.toNat (m2.length:Int)) (0:Int))) then
    some (r13,r14,r15,r16,r17,r18,r19)
    else none)
   (some (m1,m4,m5,m6,m7,m8,m9))).bind fun ((m20,m21,m22,m23,m24,m25,m26):Int×(List (List aS))×Int×Int×Int×(List ae)×(List ae))=>
 some (m20,m2,m3,m21,m22,m23,m24,m25,m26)
def jS (fu:Nat) (times2:List (List aS)):Int×Int→Option ((Int×Int)⊕Int):=fun (v4,m5)=>
 cond (decide (v4<(times2.length:Int)))
  ((idx times2 v4).bind fun x6=>
   some (.inl (IntKind.wrap .i64 (v4+1),(if (x6.length:Int)>m5 then(x6.length:Int) else m5))))
  (some (.inr m5))
def gg (fu:Nat) (n1:aP):Int×(List (List aS))×Int×Int×(List ae)×(List ae)→Option ((Int×(List (List aS))×Int×Int×(List ae)×(List ae))⊕(Ex ((List (List aS))×Int×Int×(List ae)×(List ae)) (Int×(List ae)))):=fun (v8,m9,m10,m11,m12,m13)=>
 cond (decide (v8<(n1.cd.length:Int)))
  ((idx n1.cd v8).bind fun x14=>
   (pw fu x14.bI).bind fun ((r15,r16):(List Int)×(List aS))=>
   (jW fu 0 r15 r16 m9 m10 m11 v8 m12 m13).bind fun ((r17,r18,r19,r20,r21,r22,r23,r24,r25):Int×(List Int)×(List aS)×(List (List aS))×Int×Int×Int×(List ae)×(List ae))=>
   cond (r17==0)
    (some (.inl (IntKind.wrap .i64 (v8+1),r20,r21,r22,r24,r25)))
    (cond (r17==1)
     (none)
     (some (.inr (.ret (r21,r24))))))
  (some (.inr (.dS (m9,m10,m11,m12,m13))))
def im (fu:Nat) (n1:aP) (times2:List (List aS)):Option (Int×(List ae)):=
 (od fu n1 times2).bind fun (r3:Int)=>
 cond (r3 !=0)
  (some (r3,([]:List ae)))
  ((aB (jS fu times2) fu (0,0)).bind fun (m7:Int)=>
   eR (fun r=>r) (aB (gg fu n1) fu (0,times2,0,m7,([]:List ae),([]:List ae)):Option (Ex ((List (List aS))×Int×Int×(List ae)×(List ae)) (Int×(List ae)))) fun ((m26,m27,m28,m29,m30):(List (List aS))×Int×Int×(List ae)×(List ae))=>
   some (0,m30))
def nr (fu:Nat) (s1:List Int):Option (List Int):=
 rR (s1.length:Int) (some ([]:List Int)) ((bq (([]:List Int).length+s1.length≤maxLen∧(([]:List Int).length+s1.length)*8≤140737488355328)).bind fun _=>
 some (([]:List Int)++s1))
def lc (fu:Nat) (n1:aP) (mem2:List (List Int)):Int×(List (List Int))→Option ((Int×(List (List Int)))⊕(Ex (List (List Int)) (Int×(List (List Int))))):=fun (v3,m4)=>
 cond (decide (v3<(mem2.length:Int)))
  ((idx mem2 v3).bind fun x5=>
   (idx n1.cA v3).bind fun x6=>
   cond ((x5.length:Int) !=x6)
    (some (.inr (.ret (6,([]:List (List Int))))))
    ((nr fu x5).bind fun (r7:List Int)=>
    (bq ((0:Int)≤v3∧v3<(m4.length:Int))).bind fun _=>
    (bq (v3.toNat<m4.length)).bind fun _=>
    some (.inl (IntKind.wrap .i64 (v3+1),m4.set v3.toNat r7))))
  (some (.inr (.dS m4)))
def gL (fu:Nat) (n1:aP) (mem2:List (List Int)):Option (Int×(List (List Int))):=
 cond ((mem2.length:Int) !=(n1.cA.length:Int))
  (some (2,([]:List (List Int))))
  ((bq ((0:Int)≤(mem2.length:Int)∧(mem2.length:Int)≤(mem2.length:Int)∧((24:Nat):Int)*(mem2.length:Int)≤281474976710656∧(mem2.length:Int)≤9223372036854775807)).bind fun _=>
   (bq (vQ (List.replicate (Int.toNat (mem2.length:Int)) ([]:List Int))=true)).bind fun _=>
   eR (fun r=>r) (aB (lc fu n1 mem2) fu (0,List.replicate (Int.toNat (mem2.length:Int)) ([]:List Int)):Option (Ex (List (List Int)) (Int×(List (List Int))))) fun (m8:List (List Int))=>
   some (0,m8))
def uP (fu:Nat) (x1:Int):Option (Bool):=
 some (x1 !=x1)
def ri (fu:Nat) (x1:Int) (y2:Int):Option (Int):=
 (uP fu x1).bind fun (r3:Bool)=>
 (uP fu y2).bind fun (r4:Bool)=>
 cond r3
  (cond r4
    (some 0)
    (some (-1)))
  (cond r4
    (some 1)
    (cond (decide (x1<y2))
     (some (-1))
     (cond (decide (x1>y2))
       (some 1)
       (some 0))))
def iF (fu:Nat) (s1:List Int) (s2:List Int):Int→Option (Int⊕(Ex Unit Int)):=fun v3=>
 cond (decide (v3<(s1.length:Int)))
  ((idx s1 v3).bind fun x4=>
   cond (decide (v3≥(s2.length:Int)))
    (some (.inr (.ret 1)))
    ((idx s2 v3).bind fun x5=>
    (ri fu x4 x5).bind fun (r6:Int)=>
    cond (r6 !=0)
     (some (.inr (.ret r6)))
     (some (.inl (IntKind.wrap .i64 (v3+1))))))
  (some (.inr (.dS ())))
def kW (fu:Nat) (s1:List Int) (s2:List Int):Option (Int):=
 eR (fun r=>r) (aB (iF fu s1 s2) fu 0:Option (Ex Unit Int)) fun (_:Unit)=>
 cond (decide ((s1.length:Int)<(s2.length:Int)))
  (some (-1))
  (some 0)
def jM (fu:Nat) (a1:ae) (b2:ae):Option (Int):=
 (kW fu a1.time b2.time).bind fun (r3:Int)=>
 some r3
def eJ (fu:Nat) (a1:Int):Int×(List ae)→Option ((Int×(List ae))⊕(List ae)):=fun (j6,m7)=>
 (cond (decide (j6>a1)) ((idx m7 j6).bind fun x8=>
  (idx m7 (IntKind.wrap .i64 (j6-1))).bind fun x9=>
  (jM fu x8 x9).bind fun (r10:Int)=>
  some (decide (r10<0))) (some false)).bind fun (v11:Bool)=>
 cond v11
  (((idx m7 (IntKind.wrap .i64 (j6-1))).bind fun x12=>
    (idx m7 j6).bind fun x13=>
    u7 ((idx m7 j6).bind fun x14=>
    (idx (m7.set j6.toNat x12) (IntKind.wrap .i64 (j6-1))).bind fun x15=>
    some ((m7.set j6.toNat x12).set ((IntKind.wrap .i64 (j6-1)).toNat) x13))).bind fun (m16:List ae)=>
   some (.inl (IntKind.wrap .i64 (j6-1),m16)))
  (some (.inr m7))
def eI (fu:Nat) (a1:Int) (b2:Int):Int×(List ae)→Option ((Int×(List ae))⊕(List ae)):=fun (i4,m5)=>
 cond (decide (i4<b2))
  ((aB (eJ fu a1) fu (i4,m5)).bind fun (m17:List ae)=>
   some (.inl (IntKind.wrap .i64 (i4+1),m17)))
  (some (.inr m5))
def fh (fu:Nat) (a1:Int) (b2:Int) (m3:List ae):Option (List ae):=
 (aB (eI fu a1 b2) fu (IntKind.wrap .i64 (a1+1),m3)).bind fun (m18:List ae)=>
 some m18
def gP (fu:Nat) (a1:Int) (b2:Int) (n3:Int):Int×(List ae)→Option ((Int×(List ae))⊕(List ae)):=fun (i5,m6)=>
 cond (decide (i5<n3))
  (((idx m6 (IntKind.wrap .i64 (b2+i5))).bind fun x7=>
    (idx m6 (IntKind.wrap .i64 (a1+i5))).bind fun x8=>
    u7 ((idx m6 (IntKind.wrap .i64 (a1+i5))).bind fun x9=>
    (idx (m6.set ((IntKind.wrap .i64 (a1+i5)).toNat) x7) (IntKind.wrap .i64 (b2+i5))).bind fun x10=>
    some ((m6.set ((IntKind.wrap .i64 (a1+i5)).toNat) x7).set ((IntKind.wrap .i64 (b2+i5)).toNat) x8))).bind fun (m11:List ae)=>
   some (.inl (IntKind.wrap .i64 (i5+1),m11)))
  (some (.inr m6))
def fo (fu:Nat) (a1:Int) (b2:Int) (n3:Int) (m4:List ae):Option (List ae):=
 (aB (gP fu a1 b2 n3) fu (0,m4)).bind fun (m12:List ae)=>
 some m12
def ko (fu:Nat) (m2:Int):Int×Int×(List ae)→Option ((Int×Int×(List ae))⊕(Int×(List ae))):=fun (i5,j6,m7)=>
 cond (i5 !=j6)
  ((cond (decide (i5>j6))
     ((fo fu (IntKind.wrap .i64 (m2-i5)) m2 j6 m7).bind fun (r8:List ae)=>
     bif Nat.beq (List.length r8) (List.length m7) then
     some (IntKind.wrap .i64 (i5-j6),j6,r8)
     else none)
     ((fo fu (IntKind.wrap .i64 (m2-i5)) (IntKind.wrap .i64 ((IntKind.wrap .i64 (m2+j6))-i5)) i5 m7).bind fun (r9:List ae)=>
     bif Nat.beq (List.length r9) (List.length m7) then
     some (i5,IntKind.wrap .i64 (j6-i5),r9)
     else none)).bind fun ((i10,j11,m12):Int×Int×(List ae))=>
   some (.inl (i10,j11,m12)))
  (some (.inr (i5,m7)))
def gf (fu:Nat) (a1:Int) (m2:Int) (b3:Int) (m4:List ae):Option (List ae):=
 (aB (ko fu m2) fu (IntKind.wrap .i64 (m2-a1),IntKind.wrap .i64 (b3-m2),m4)).bind fun ((i13,m14):Int×(List ae))=>
 (fo fu (IntKind.wrap .i64 (m2-i13)) m2 i13 m14).bind fun (r15:List ae)=>
 bif Nat.beq (List.length r15) (List.length m14) then
 some r15
 else none
def ic (self:Int→Int→Int→(List ae)→Option (List ae)) (fu:Nat) (a1:Int) (m4:List ae):Int×Int→Option ((Int×Int)⊕Int):=fun (i5,j6)=>
 cond (decide (i5<j6))
  ((bq ((0:Int)≤1)).bind fun _=>
   (idx m4 (IntKind.wrap .i64 (Int.fdiv (IntKind.wrap .u64 (IntKind.wrap .i64 (i5+j6))) (2^(min (Int.toNat 1) (IntKind.bits .u64)))))).bind fun x7=>
   (idx m4 a1).bind fun x8=>
   (jM fu x7 x8).bind fun (r9:Int)=>
   (cond (decide (r9<0))
     (some (IntKind.wrap .i64 ((IntKind.wrap .i64 (Int.fdiv (IntKind.wrap .u64 (IntKind.wrap .i64 (i5+j6))) (2^(min (Int.toNat 1) (IntKind.bits .u64)))))+1),j6))
     (some (i5,IntKind.wrap .i64 (Int.fdiv (IntKind.wrap .u64 (IntKind.wrap .i64 (i5+j6))) (2^(min (Int.toNat 1) (IntKind.bits .u64))))))).bind fun ((i10,j11):Int×Int)=>
   some (.inl (i10,j11)))
  (some (.inr i5))
def ib (self:Int→Int→Int→(List ae)→Option (List ae)) (fu:Nat) (i12:Int):Int×(List ae)→Option ((Int×(List ae))⊕(List ae)):=fun (k13,m14)=>
 cond (decide (k13<(IntKind.wrap .i64 (i12-1))))
  (((idx m14 (IntKind.wrap .i64 (k13+1))).bind fun x15=>
    (idx m14 k13).bind fun x16=>
    u7 ((idx m14 k13).bind fun x17=>
    (idx (m14.set k13.toNat x15) (IntKind.wrap .i64 (k13+1))).bind fun x18=>
    some ((m14.set k13.toNat x15).set ((IntKind.wrap .i64 (k13+1)).toNat) x16))).bind fun (m19:List ae)=>
   some (.inl (IntKind.wrap .i64 (k13+1),m19)))
  (some (.inr m14))
def fP (self:Int→Int→Int→(List ae)→Option (List ae)) (fu:Nat) (m2:Int) (m4:List ae):Int×Int→Option ((Int×Int)⊕Int):=fun (i21,j22)=>
 cond (decide (i21<j22))
  ((bq ((0:Int)≤1)).bind fun _=>
   (idx m4 m2).bind fun x23=>
   (idx m4 (IntKind.wrap .i64 (Int.fdiv (IntKind.wrap .u64 (IntKind.wrap .i64 (i21+j22))) (2^(min (Int.toNat 1) (IntKind.bits .u64)))))).bind fun x24=>
   (jM fu x23 x24).bind fun (r25:Int)=>
   (cond (!(decide (r25<0)))
     (some (IntKind.wrap .i64 ((IntKind.wrap .i64 (Int.fdiv (IntKind.wrap .u64 (IntKind.wrap .i64 (i21+j22))) (2^(min (Int.toNat 1) (IntKind.bits .u64)))))+1),j22))
     (some (i21,IntKind.wrap .i64 (Int.fdiv (IntKind.wrap .u64 (IntKind.wrap .i64 (i21+j22))) (2^(min (Int.toNat 1) (IntKind.bits .u64))))))).bind fun ((i26,j27):Int×Int)=>
   some (.inl (i26,j27)))
  (some (.inr i21))
def ia (self:Int→Int→Int→(List ae)→Option (List ae)) (fu:Nat) (i28:Int):Int×(List ae)→Option ((Int×(List ae))⊕(List ae)):=fun (k29,m30)=>
 cond (decide (k29>i28))
  (((idx m30 (IntKind.wrap .i64 (k29-1))).bind fun x31=>
    (idx m30 k29).bind fun x32=>
    u7 ((idx m30 k29).bind fun x33=>
    (idx (m30.set k29.toNat x31) (IntKind.wrap .i64 (k29-1))).bind fun x34=>
    some ((m30.set k29.toNat x31).set ((IntKind.wrap .i64 (k29-1)).toNat) x32))).bind fun (m35:List ae)=>
   some (.inl (IntKind.wrap .i64 (k29-1),m35)))
  (some (.inr m30))
def fO (self:Int→Int→Int→(List ae)→Option (List ae)) (fu:Nat) (a1:Int) (m2:Int) (b3:Int) (m4:List ae):Int×Int→Option ((Int×Int)⊕Int):=fun (start39,r40)=>
 cond (decide (start39<r40))
  ((bq ((0:Int)≤1)).bind fun _=>
   (idx m4 (IntKind.wrap .i64 ((IntKind.wrap .i64 ((IntKind.wrap .i64 ((IntKind.wrap .i64 (Int.fdiv (IntKind.wrap .u64 (IntKind.wrap .i64 (a1+b3))) (2^(min (Int.toNat 1) (IntKind.bits .u64)))))+m2))-1))-(IntKind.wrap .i64 (Int.fdiv (IntKind.wrap .u64 (IntKind.wrap .i64 (start39+r40))) (2^(min (Int.toNat 1) (IntKind.bits .u64)))))))).bind fun x41=>
   (idx m4 (IntKind.wrap .i64 (Int.fdiv (IntKind.wrap .u64 (IntKind.wrap .i64 (start39+r40))) (2^(min (Int.toNat 1) (IntKind.bits .u64)))))).bind fun x42=>
   (jM fu x41 x42).bind fun (r43:Int)=>
   (cond (!(decide (r43<0)))
     (some (IntKind.wrap .i64 ((IntKind.wrap .i64 (Int.fdiv (IntKind.wrap .u64 (IntKind.wrap .i64 (start39+r40))) (2^(min (Int.toNat 1) (IntKind.bits .u64)))))+1),r40))
     (some (start39,IntKind.wrap .i64 (Int.fdiv (IntKind.wrap .u64 (IntKind.wrap .i64 (start39+r40))) (2^(min (Int.toNat 1) (IntKind.bits .u64))))))).bind fun ((start44,r45):Int×Int)=>
   some (.inl (start44,r45)))
  (some (.inr start39))
def mM (self:Int→Int→Int→(List ae)→Option (List ae)) (fu:Nat) (a1:Int) (m2:Int) (b3:Int) (m4:List ae):Option (List ae):=
 cond ((IntKind.wrap .i64 (m2-a1))==1)
  ((aB (ic self fu a1 m4) fu (m2,b3)).bind fun (i12:Int)=>
   (aB (ib self fu i12) fu (a1,m4)).bind fun (m20:List ae)=>
   some m20)
  (cond ((IntKind.wrap .i64 (b3-m2))==1)
    ((aB (fP self fu m2 m4) fu (a1,m2)).bind fun (i28:Int)=>
    (aB (ia self fu i28) fu (m2,m4)).bind fun (m36:List ae)=>
    some m36)
    ((bq ((0:Int)≤1)).bind fun _=>
    (cond (decide (m2>(IntKind.wrap .i64 (Int.fdiv (IntKind.wrap .u64 (IntKind.wrap .i64 (a1+b3))) (2^(min (Int.toNat 1) (IntKind.bits .u64)))))))
      (some (IntKind.wrap .i64 ((IntKind.wrap .i64 ((IntKind.wrap .i64 (Int.fdiv (IntKind.wrap .u64 (IntKind.wrap .i64 (a1+b3))) (2^(min (Int.toNat 1) (IntKind.bits .u64)))))+m2))-b3),IntKind.wrap .i64 (Int.fdiv (IntKind.wrap .u64 (IntKind.wrap .i64 (a1+b3))) (2^(min (Int.toNat 1) (IntKind.bits .u64))))))
      (some (a1,m2))).bind fun ((start37,r38):Int×Int)=>
    (aB (fO self fu a1 m2 b3 m4) fu (start37,r38)).bind fun (start46:Int)=>
    (cond (decide (start46<m2)) (some (decide (m2<(IntKind.wrap .i64 ((IntKind.wrap .i64 ((IntKind.wrap .i64 (Int.fdiv (IntKind.wrap .u64 (IntKind.wrap .i64 (a1+b3))) (2^(min (Int.toNat 1) (IntKind.bits .u64)))))+m2))-start46))))) (some false)).bind fun (v47:Bool)=>
    (cond v47
      ((gf fu start46 m2 (IntKind.wrap .i64 ((IntKind.wrap .i64 ((IntKind.wrap .i64 (Int.fdiv (IntKind.wrap .u64 (IntKind.wrap .i64 (a1+b3))) (2^(min (Int.toNat 1) (IntKind.bits .u64)))))+m2))-start46)) m4).bind fun (r48:List ae)=>
       bif Nat.beq (List.length r48) (List.length m4) then
       some r48
       else none)
      (some m4)).bind fun (m49:List ae)=>
    (cond (decide (a1<start46)) (some (decide (start46<(IntKind.wrap .i64 (Int.fdiv (IntKind.wrap .u64 (IntKind.wrap .i64 (a1+b3))) (2^(min (Int.toNat 1) (IntKind.bits .u64)))))))) (some false)).bind fun (v50:Bool)=>
    (cond v50
      ((self a1 start46 (IntKind.wrap .i64 (Int.fdiv (IntKind.wrap .u64 (IntKind.wrap .i64 (a1+b3))) (2^(min (Int.toNat 1) (IntKind.bits .u64))))) m49).bind fun (r51:List ae)=>
       bif Nat.beq (List.length r51) (List.length m49) then
       some r51
       else none)
      (some m49)).bind fun (m52:List ae)=>
    (cond (decide ((IntKind.wrap .i64 (Int.fdiv (IntKind.wrap .u64 (IntKind.wrap .i64 (a1+b3))) (2^(min (Int.toNat 1) (IntKind.bits .u64)))))<(IntKind.wrap .i64 ((IntKind.wrap .i64 ((IntKind.wrap .i64 (Int.fdiv (IntKind.wrap .u64 (IntKind.wrap .i64 (a1+b3))) (2^(min (Int.toNat 1) (IntKind.bits .u64)))))+m2))-start46)))) (some (decide ((IntKind.wrap .i64 ((IntKind.wrap .i64 ((IntKind.wrap .i64 (Int.fdiv (IntKind.wrap .u64 (IntKind.wrap .i64 (a1+b3))) (2^(min (Int.toNat 1) (IntKind.bits .u64)))))+m2))-start46))<b3))) (some false)).bind fun (v53:Bool)=>
    (cond v53
      ((self (IntKind.wrap .i64 (Int.fdiv (IntKind.wrap .u64 (IntKind.wrap .i64 (a1+b3))) (2^(min (Int.toNat 1) (IntKind.bits .u64))))) (IntKind.wrap .i64 ((IntKind.wrap .i64 ((IntKind.wrap .i64 (Int.fdiv (IntKind.wrap .u64 (IntKind.wrap .i64 (a1+b3))) (2^(min (Int.toNat 1) (IntKind.bits .u64)))))+m2))-start46)) b3 m52).bind fun (r55:List ae)=>
       bif Nat.beq (List.length r55) (List.length m52) then
       some r55
       else none)
      (some m52)).bind fun (m56:List ae)=>
    some m56))
def cy:Nat→Int→Int→Int→(List ae)→Option (List ae)
 | 0=>fun _ _ _ _=>none
 | fu+1=>mM (cy fu) (fu+1)
def iN (fu:Nat) (n1:Int):Int×Int×(List ae)→Option ((Int×Int×(List ae))⊕(Int×(List ae))):=fun (a3,b4,m5)=>
 cond (decide (b4≤n1))
  ((fh fu a3 b4 m5).bind fun (r6:List ae)=>
   bif Nat.beq (List.length r6) (List.length m5) then
   some (.inl (b4,IntKind.wrap .i64 (b4+20),r6))
   else none)
  (some (.inr (a3,m5)))
def iM (fu:Nat) (n1:Int) (blockSize10:Int):Int×Int×(List ae)→Option ((Int×Int×(List ae))⊕(Int×(List ae))):=fun (a12,b13,m14)=>
 cond (decide (b13≤n1))
  ((cy fu a12 (IntKind.wrap .i64 (a12+blockSize10)) b13 m14).bind fun (r15:List ae)=>
   bif Nat.beq (List.length r15) (List.length m14) then
   some (.inl (b13,IntKind.wrap .i64 (b13+(IntKind.wrap .i64 (2*blockSize10))),r15))
   else none)
  (some (.inr (a12,m14)))
def iL (fu:Nat) (n1:Int):Int×(List ae)→Option ((Int×(List ae))⊕(List ae)):=fun (blockSize10,m11)=>
 cond (decide (blockSize10<n1))
  ((aB (iM fu n1 blockSize10) fu (0,IntKind.wrap .i64 (2*blockSize10),m11)).bind fun ((a16,m17):Int×(List ae))=>
   (cond (decide ((IntKind.wrap .i64 (a16+blockSize10))<n1))
     ((cy fu a16 (IntKind.wrap .i64 (a16+blockSize10)) n1 m17).bind fun (r18:List ae)=>
     bif Nat.beq (List.length r18) (List.length m17) then
     some r18
     else none)
     (some m17)).bind fun (m19:List ae)=>
   some (.inl (IntKind.wrap .i64 (blockSize10*2),m19)))
  (some (.inr m11))
def lA (fu:Nat) (n1:Int) (m2:List ae):Option (List ae):=
 (aB (iN fu n1) fu (0,20,m2)).bind fun ((a7,m8):Int×(List ae))=>
 (fh fu a7 n1 m8).bind fun (r9:List ae)=>
 bif Nat.beq (List.length r9) (List.length m8) then
 (aB (iL fu n1) fu (20,r9)).bind fun (m20:List ae)=>
 some m20
 else none
def jk (fu:Nat) (m1:List ae):Option (List ae):=
 (lA fu (m1.length:Int) m1).bind fun (r2:List ae)=>
 bif Nat.beq (List.length r2) (List.length m1) then
 some r2
 else none
def uj (fu:Nat) (s1:List Int) (s2:List Int):Int→Option (Int⊕(Ex Unit Bool)):=fun v3=>
 cond (decide (v3<(s1.length:Int)))
  ((idx s1 v3).bind fun x4=>
   (idx s2 v3).bind fun x5=>
   cond (x4 !=x5)
    (some (.inr (.ret false)))
    (some (.inl (IntKind.wrap .i64 (v3+1)))))
  (some (.inr (.dS ())))
def pj (fu:Nat) (s1:List Int) (s2:List Int):Option (Bool):=
 cond ((s1.length:Int) !=(s2.length:Int))
  (some false)
  (eR (fun r=>r) (aB (uj fu s1 s2) fu 0:Option (Ex Unit Bool)) fun (_:Unit)=>
   some true)
def nq (fu:Nat) (s1:Int) (s2:Int) (m3:List ae):Option ((List ae)×(List ae)):=
 rR (((Int.toNat s2):Nat):Int) (some (m3,([]:List ae))) ((bq ((Int.toNat s1)+(Int.toNat s2)≤m3.length)).bind fun _=>
 (bq (([]:List ae).length+((m3.drop (Int.toNat s1)).take (Int.toNat s2)).length≤maxLen∧(([]:List ae).length+((m3.drop (Int.toNat s1)).take (Int.toNat s2)).length)*64≤140737488355328)).bind fun _=>
 some (m3,([]:List ae)++((m3.drop (Int.toNat s1)).take (Int.toNat s2))))
def jE (fu:Nat) (a1:bF) (x2:List Int) (m3:List (List Int)):Option (Bool×Int×Int×(List (List Int))):=
 (oX fu a1.At x2).bind fun (r4:Int)=>
 (cond (decide (r4<0)) (some true) ((bq ((0:Int)≤a1.Array∧a1.Array<(m3.length:Int))).bind fun _=>
  (m3[a1.Array.toNat]?).bind fun x5=>
  some (decide (r4≥((List.length x5:Nat):Int))))).bind fun (v6:Bool)=>
 cond v6
  (some (true,0,0,m3))
  ((bq ((0:Int)≤a1.Array∧a1.Array<(m3.length:Int))).bind fun _=>
   (m3[a1.Array.toNat]?).bind fun x7=>
   (bq ((0:Int)≤r4∧r4<((List.length x7:Nat):Int))).bind fun _=>
   some (false,((a1.Array.toNat:Nat):Int),((r4.toNat:Nat):Int),m3))
def kI (fu:Nat) (a1:bF) (x2:List Int) (m3:List (List Int)):Option (Int×(List (List Int))):=
 (jE fu a1 x2 m3).bind fun ((r4,r5,r6,r7):Bool×Int×Int×(List (List Int)))=>
 bif Nat.beq (List.length r7) (List.length m3) then
 cond (!r4)
  ((bq (r4=false)).bind fun _=>
   (r7[(Int.toNat r5)]?).bind fun x8=>
   (x8[(Int.toNat r6)]?).bind fun x9=>
   some (x9,r7))
  (some (0,r7))
 else none
def gw (fu:Nat) (s1:dh) (x2:List Int):Int×(List (List Int))×(List Int)→Option ((Int×(List (List Int))×(List Int))⊕((List (List Int))×(List Int))):=fun (v4,m5,m6)=>
 cond (decide (v4<(s1.c9.length:Int)))
  ((idx s1.c9 v4).bind fun x7=>
   (kI fu x7 x2 m5).bind fun ((r8,r9):Int×(List (List Int)))=>
   bif Nat.beq (List.length r9) (List.length m5) then
   (idx m6 v4).bind fun x10=>
   some (.inl (IntKind.wrap .i64 (v4+1),r9,m6.set v4.toNat r8))
   else none)
  (some (.inr (m5,m6)))
def lb (fu:Nat) (s1:dh) (x2:List Int) (m3:List (List Int)):Option (List (List Int)):=
 (bq ((0:Int)≤3∧3≤3∧((8:Nat):Int)*3≤281474976710656∧3≤9223372036854775807)).bind fun _=>
 (aB (gw fu s1 x2) fu (0,m3,List.replicate (Int.toNat 3) (0:Int))).bind fun ((m11,m12):(List (List Int))×(List Int))=>
 (jE fu s1.cf x2 m11).bind fun ((r13,r14,r15,r16):Bool×Int×Int×(List (List Int)))=>
 bif Nat.beq (List.length r16) (List.length m11) then
 cond r13
  (some r16)
  ((cond (s1.Do==1)
     ((bq (r13=false)).bind fun _=>
     (r16[(Int.toNat r14)]?).bind fun x17=>
     (bq ((Int.toNat r15)<x17.length)).bind fun _=>
     some (r16.set (Int.toNat r14) (x17.set (Int.toNat r15) s1.Value)))
     ((cond (s1.Do==2)
       ((idx m12 0).bind fun x18=>
        (bq (r13=false)).bind fun _=>
        (r16[(Int.toNat r14)]?).bind fun x19=>
        (bq ((Int.toNat r15)<x19.length)).bind fun _=>
        some (r16.set (Int.toNat r14) (x19.set (Int.toNat r15) x18)))
       ((cond (s1.Do==3)
          ((idx m12 0).bind fun x20=>
          (idx m12 1).bind fun x21=>
          (bq (r13=false)).bind fun _=>
          (r16[(Int.toNat r14)]?).bind fun x22=>
          (bq ((Int.toNat r15)<x22.length)).bind fun _=>
          some (r16.set (Int.toNat r14) (x22.set (Int.toNat r15) (IntKind.wrap .i64 (x20+x21)))))
          ((cond (s1.Do==4)
            ((idx m12 0).bind fun x23=>
             (idx m12 1).bind fun x24=>
             (bq (r13=false)).bind fun _=>
             (r16[(Int.toNat r14)]?).bind fun x25=>
             (bq ((Int.toNat r15)<x25.length)).bind fun _=>
             some (r16.set (Int.toNat r14) (x25.set (Int.toNat r15) (IntKind.wrap .i64 (x23-x24)))))
            ((cond (s1.Do==5)
               ((idx m12 0).bind fun x26=>
               (idx m12 1).bind fun x27=>
               (bq (r13=false)).bind fun _=>
               (r16[(Int.toNat r14)]?).bind fun x28=>
               (bq ((Int.toNat r15)<x28.length)).bind fun _=>
               some (r16.set (Int.toNat r14) (x28.set (Int.toNat r15) (IntKind.wrap .i64 (x26*x27)))))
               ((cond (s1.Do==6)
                 ((idx m12 0).bind fun x29=>
                  (idx m12 1).bind fun x30=>
                  (bq (r13=false)).bind fun _=>
                  (r16[(Int.toNat r14)]?).bind fun x31=>
                  (bq ((Int.toNat r15)<x31.length)).bind fun _=>
                  some (r16.set (Int.toNat r14) (x31.set (Int.toNat r15) (if x30>x29 then x30 else x29))))
                 ((cond (s1.Do==7)
                    ((bq (r13=false)).bind fun _=>
                    (r16[(Int.toNat r14)]?).bind fun x32=>
                    (bq ((Int.toNat r15)<x32.length)).bind fun _=>
                    (idx m12 0).bind fun x33=>
                    (idx m12 1).bind fun x34=>
                    (cond (decide (x33<x34))
                      ((bq (r13=false)).bind fun _=>
                       ((r16.set (Int.toNat r14) (x32.set (Int.toNat r15) 0))[(Int.toNat r14)]?).bind fun x35=>
                       (bq ((Int.toNat r15)<x35.length)).bind fun _=>
                       some ((r16.set (Int.toNat r14) (x32.set (Int.toNat r15) 0)).set (Int.toNat r14) (x35.set (Int.toNat r15) 1)))
                      (some (r16.set (Int.toNat r14) (x32.set (Int.toNat r15) 0)))).bind fun (m36:List (List Int))=>
                    some m36)
                    ((cond (s1.Do==8)
                      ((idx m12 2).bind fun x37=>
                       (bq (r13=false)).bind fun _=>
                       (r16[(Int.toNat r14)]?).bind fun x38=>
                       (bq ((Int.toNat r15)<x38.length)).bind fun _=>
                       (idx m12 0).bind fun x39=>
                       (cond (x39 !=0)
                         ((idx m12 1).bind fun x40=>
                         (bq (r13=false)).bind fun _=>
                         ((r16.set (Int.toNat r14) (x38.set (Int.toNat r15) x37))[(Int.toNat r14)]?).bind fun x41=>
                         (bq ((Int.toNat r15)<x41.length)).bind fun _=>
                         some ((r16.set (Int.toNat r14) (x38.set (Int.toNat r15) x37)).set (Int.toNat r14) (x41.set (Int.toNat r15) x40)))
                         (some (r16.set (Int.toNat r14) (x38.set (Int.toNat r15) x37)))).bind fun (m42:List (List Int))=>
                       some m42)
                      ((cond (s1.Do==9)
                         ((bq (r13=false)).bind fun _=>
                         (idx m12 0).bind fun x43=>
                         (r16[(Int.toNat r14)]?).bind fun x44=>
                         (x44[(Int.toNat r15)]?).bind fun x45=>
                         (bq (r13=false)).bind fun _=>
                         (r16[(Int.toNat r14)]?).bind fun x46=>
                         (bq ((Int.toNat r15)<x46.length)).bind fun _=>
                         some (r16.set (Int.toNat r14) (x46.set (Int.toNat r15) (IntKind.wrap .i64 (x45+x43)))))
                         ((bq (r13=false)).bind fun _=>
                         (idx m12 0).bind fun x47=>
                         (idx m12 1).bind fun x48=>
                         (r16[(Int.toNat r14)]?).bind fun x49=>
                         (x49[(Int.toNat r15)]?).bind fun x50=>
                         (bq (r13=false)).bind fun _=>
                         (r16[(Int.toNat r14)]?).bind fun x51=>
                         (bq ((Int.toNat r15)<x51.length)).bind fun _=>
                         some (r16.set (Int.toNat r14) (x51.set (Int.toNat r15) (IntKind.wrap .i64 (x50+(IntKind.wrap .i64 (x47*x48)))))))).bind fun (m52:List (List Int))=>
                       some m52)).bind fun (m53:List (List Int))=>
                    some m53)).bind fun (m54:List (List Int))=>
                  some m54)).bind fun (m55:List (List Int))=>
               some m55)).bind fun (m56:List (List Int))=>
             some m56)).bind fun (m57:List (List Int))=>
          some m57)).bind fun (m58:List (List Int))=>
        some m58)).bind fun (m59:List (List Int))=>
     some m59)).bind fun (m60:List (List Int))=>
   some m60)
 else none
def mr (fu:Nat) (s1:Int) (s2:Int) (i3:Int) (j4:Int) (m5:List ae):Option (Int×Int×(List ae)):=
 (bq ((0:Int)≤i3∧i3≤j4∧j4≤(((Int.toNat s2):Nat):Int)∧(((Int.toNat s2):Nat):Int)≤(((Int.toNat s2):Nat):Int))).bind fun _=>
 cond (i3==j4)
  (some ((((Int.toNat s1):Nat):Int),(((Int.toNat s2):Nat):Int),m5))
  ((bq ((0:Int)≤i3∧i3≤(((Int.toNat s2):Nat):Int))).bind fun _=>
   (bq ((0:Int)≤j4∧j4≤(((Int.toNat s2):Nat):Int))).bind fun _=>
   (bq ((Int.toNat s1)=0∧(Int.toNat i3)+((Int.toNat s2)-Int.toNat j4)≤m5.length∧((Int.toNat s1)+Int.toNat j4)+((Int.toNat s2)-Int.toNat j4)≤m5.length)).bind fun _=>
   (bq ((0:Int)≤((((Int.toNat i3)+((Int.toNat s2)-Int.toNat j4)):Nat):Int)∧((((Int.toNat i3)+((Int.toNat s2)-Int.toNat j4)):Nat):Int)≤(((Int.toNat s2):Nat):Int)∧0+Int.toNat (((Int.toNat s2):Nat):Int)≤(iB m5 ((List.drop ((Int.toNat s1)+Int.toNat j4) m5).take ((Int.toNat s2)-Int.toNat j4)) (Int.toNat i3) ((Int.toNat s2)-Int.toNat j4)).length)).bind fun _=>
   (bq ((0+Int.toNat ((((Int.toNat i3)+((Int.toNat s2)-Int.toNat j4)):Nat):Int))+(Int.toNat (((Int.toNat s2):Nat):Int)-Int.toNat ((((Int.toNat i3)+((Int.toNat s2)-Int.toNat j4)):Nat):Int))≤(iB m5 ((List.drop ((Int.toNat s1)+Int.toNat j4) m5).take ((Int.toNat s2)-Int.toNat j4)) (Int.toNat i3) ((Int.toNat s2)-Int.toNat j4)).length)).bind fun _=>
   some (((0:Nat):Int),((((Int.toNat i3)+((Int.toNat s2)-Int.toNat j4)):Nat):Int),iB (iB m5 ((List.drop ((Int.toNat s1)+Int.toNat j4) m5).take ((Int.toNat s2)-Int.toNat j4)) (Int.toNat i3) ((Int.toNat s2)-Int.toNat j4)) (List.replicate (Int.toNat (((Int.toNat s2):Nat):Int)-Int.toNat ((((Int.toNat i3)+((Int.toNat s2)-Int.toNat j4)):Nat):Int)) (⟨(⟨0,([]:List Int)⟩:bE),0,([]:List Int)⟩:ae)) (0+Int.toNat ((((Int.toNat i3)+((Int.toNat s2)-Int.toNat j4)):Nat):Int)) (Int.toNat (((Int.toNat s2):Nat):Int)-Int.toNat ((((Int.toNat i3)+((Int.toNat s2)-Int.toNat j4)):Nat):Int))))
def ov (fu:Nat) (s1:ae) (m2:Int) (m3:Int) (m4:List ae):Option (Bool×Int×Int×(List ae)):=
 (bq ((0:Int)≤0∧0<(((Int.toNat m3):Nat):Int))).bind fun _=>
 (m4[((Int.toNat m2)+(0:Int).toNat)]?).bind fun x5=>
 (m4[((Int.toNat m2)+(0:Int).toNat)]?).bind fun x6=>
 (pj fu s1.time x6.time).bind fun (r7:Bool)=>
 some ((!r7),(((Int.toNat m2):Nat):Int),(((Int.toNat m3):Nat):Int),m4)
def g8 (fu:Nat) (s2:Int):Int×Int×Int×Int×Int×(List ae)→Option ((Int×Int×Int×Int×Int×(List ae))⊕(Ex (Int×Int×(List ae)) (Int×(List ae)×Int×Int))):=fun (v6,s7,s8,m9,m10,m11)=>
 cond (decide (v6<(((Int.toNat s2):Nat):Int)))
  ((bq ((0:Int)≤v6∧v6<(((Int.toNat s8):Nat):Int))).bind fun _=>
   (m11[((Int.toNat s7)+v6.toNat)]?).bind fun x12=>
   (ov fu x12 (((Int.toNat m9):Nat):Int) (((Int.toNat m10):Nat):Int) m11).bind fun ((r13,r14,r15,r16):Bool×Int×Int×(List ae))=>
   bif Nat.beq (List.length r16) (List.length m11) then
   cond r13
    (some (.inr (.ret (v6,r16,(((Int.toNat r14):Nat):Int),(((Int.toNat r15):Nat):Int)))))
    (some (.inl (IntKind.wrap .i64 (v6+1),(((Int.toNat s7):Nat):Int),(((Int.toNat s8):Nat):Int),(((Int.toNat r14):Nat):Int),(((Int.toNat r15):Nat):Int),r16)))
   else none)
  (some (.inr (.dS ((((Int.toNat m9):Nat):Int),(((Int.toNat m10):Nat):Int),m11))))
def kB (fu:Nat) (s1:Int) (s2:Int) (m3:List ae) (m4:Int) (m5:Int):Option (Int×(List ae)×Int×Int):=
 eR (fun r=>r) (aB (g8 fu s2) fu (0,(((Int.toNat s1):Nat):Int),(((Int.toNat s2):Nat):Int),(((Int.toNat m4):Nat):Int),(((Int.toNat m5):Nat):Int),m3):Option (Ex (Int×Int×(List ae)) (Int×(List ae)×Int×Int))) fun ((m17,m18,m19):Int×Int×(List ae))=>
 some ((-1),m19,(((Int.toNat m17):Nat):Int),(((Int.toNat m18):Nat):Int))
def k8 (fu:Nat) (n1:aP) (mix4:List Int):Int×Int×Int×(List (List Int))×(List ae)→Option ((Int×Int×Int×(List (List Int))×(List ae))⊕(Int×(List (List Int))×(List ae))):=fun (turn22,now23,now24,m25,m26)=>
 cond (decide ((((Int.toNat now24):Nat):Int)>0))
  ((cond (decide ((mix4.length:Int)>0))
     ((bq ((mix4.length:Int)≠0)).bind fun _=>
     (idx mix4 (Int.tmod turn22 (mix4.length:Int))).bind fun x27=>
     (bq ((((Int.toNat now24):Nat):Int)≠0)).bind fun _=>
     (bq ((((Int.toNat now24):Nat):Int)≠0)).bind fun _=>
     some (Int.tmod (IntKind.wrap .i64 ((Int.tmod x27 (((Int.toNat now24):Nat):Int))+(((Int.toNat now24):Nat):Int))) (((Int.toNat now24):Nat):Int),IntKind.wrap .i64 (turn22+1)))
     (some (0,turn22))).bind fun ((i28,turn29):Int×Int)=>
   (bq ((0:Int)≤i28∧i28<(((Int.toNat now24):Nat):Int))).bind fun _=>
   (m26[((Int.toNat now23)+i28.toNat)]?).bind fun x30=>
   (m26[((Int.toNat now23)+i28.toNat)]?).bind fun x31=>
   (idx n1.cd x31.aQ.Stmt).bind fun x32=>
   (bq ((0:Int)≤i28∧i28<(((Int.toNat now24):Nat):Int))).bind fun _=>
   (m26[((Int.toNat now23)+i28.toNat)]?).bind fun x33=>
   (m26[((Int.toNat now23)+i28.toNat)]?).bind fun x34=>
   (lb fu x32 x34.aQ.At m25).bind fun (r35:List (List Int))=>
   bif Nat.beq (List.length r35) (List.length m25) then
   (mr fu (((Int.toNat now23):Nat):Int) (((Int.toNat now24):Nat):Int) i28 (IntKind.wrap .i64 (i28+1)) m26).bind fun ((r36,r37,r38):Int×Int×(List ae))=>
   bif Nat.beq (List.length r38) (List.length m26) then
   some (.inl (turn29,(((Int.toNat r36):Nat):Int),(((Int.toNat r37):Nat):Int),r35,r38))
   else none
   else none)
  (some (.inr (turn22,m25,m26)))
def pC (fu:Nat) (n1:aP) (mix4:List Int):Int×(List ae)×(List (List Int))×Int×Int→Option ((Int×(List ae)×(List (List Int))×Int×Int)⊕((List ae)×(List (List Int))×Int×Int)):=fun (turn10,m11,m12,m13,m14)=>
 cond (decide ((((Int.toNat m14):Nat):Int)>0))
  ((kB fu (((Int.toNat m13):Nat):Int) (((Int.toNat m14):Nat):Int) m11 (((Int.toNat m13):Nat):Int) (((Int.toNat m14):Nat):Int)).bind fun ((r15,r16,r17,r18):Int×(List ae)×Int×Int)=>
   bif Nat.beq (List.length r16) (List.length m11) then
   (cond (decide (r15<0))
     (some (((Int.toNat r18):Nat):Int))
     (some r15)).bind fun (k19:Int)=>
   (bq ((0:Int)≤k19∧k19≤(((Int.toNat r18):Nat):Int))).bind fun _=>
   (nq fu (((Int.toNat r17):Nat):Int) (((Int.toNat k19):Nat):Int) r16).bind fun ((r20,r21):(List ae)×(List ae))=>
   bif Nat.beq (List.length r20) (List.length r16) then
   (aB (k8 fu n1 mix4) fu (turn10,((0:Nat):Int),((r21.length:Nat):Int),m12,r21)).bind fun ((turn39,m40,m41):Int×(List (List Int))×(List ae))=>
   (bq ((0:Int)≤k19∧k19≤(((Int.toNat r18):Nat):Int))).bind fun _=>
   some (.inl (turn39,r20,m40,((((Int.toNat r17)+Int.toNat k19):Nat):Int),((((Int.toNat r18)-Int.toNat k19):Nat):Int)))
   else none
   else none)
  (some (.inr (m11,m12,(((Int.toNat m13):Nat):Int),(((Int.toNat m14):Nat):Int))))
def jN (fu:Nat) (n1:aP) (times2:List (List aS)) (mem3:List (List Int)) (mix4:List Int):Option ((List (List Int))×Int):=
 (im fu n1 times2).bind fun ((r5,r6):Int×(List ae))=>
 cond (r5 !=0)
  (some (([]:List (List Int)),r5))
  ((gL fu n1 mem3).bind fun ((r7,r8):Int×(List (List Int)))=>
   cond (r7 !=0)
    (some (([]:List (List Int)),r7))
    ((jk fu r6).bind fun (r9:List ae)=>
    bif Nat.beq (List.length r9) (List.length r6) then
    (aB (pC fu n1 mix4) fu (0,r9,r8,((0:Nat):Int),((r9.length:Nat):Int))).bind fun ((m42,m43,m44,m45):(List ae)×(List (List Int))×Int×Int)=>
    some (m43,0)
    else none))
def ji (fu:Nat):Option (Bool):=
 (jN fu (⟨[1],[(⟨(⟨([]:List Int),([]:List aS)⟩:bp),1,7,(⟨0,(⟨([]:List Int),0⟩:aS)⟩:bF),([]:List bF)⟩:dh)]⟩:aP) [([]:List aS)] [[0]] ([]:List Int)).bind fun ((r1,r2):(List (List Int))×Int)=>
 (cond (r2==0) (cond ((r1.length:Int)==1) ((idx r1 0).bind fun x3=>
  cond ((x3.length:Int)==1) ((idx r1 0).bind fun x4=>
  (idx x4 0).bind fun x5=>
  some (x5==7)) (some false)) (some false)) (some false)).bind fun (v6:Bool)=>
 some v6
def mP (fu:Nat) (n1:aP) (a2:bF) (x3:List Int):Option (gV×Bool):=
 (oX fu a2.At x3).bind fun (r4:Int)=>
 (cond (decide (r4≥0)) ((idx n1.cA a2.Array).bind fun x5=>
  some (decide (r4<x5),a2.Array,r4)) (some (false,a2.Array,r4))).bind fun ((v6,m7,m8):Bool×Int×Int)=>
 some ((⟨m7,m8⟩:gV),v6)
def bY (fu:Nat) (c1:gV) (m2:bC):Option (Bool×Int×Int×bC):=
 (cond (!(!(uq m2.es c1.array c1.at_)))
   ((bq (m2.n+1≤maxLen∧uq m2.es c1.array c1.at_=true)).bind fun _=>
    some (false,((m2.n:Nat):Int),((0:Nat):Int),yt m2 c1.array c1.at_ 3))
   (some ((uq m2.es c1.array c1.at_),(((IQ m2.es c1.array c1.at_):Nat):Int),((0:Nat):Int),m2))).bind fun ((t3,t4,t5,m6):Bool×Int×Int×bC)=>
 some (t3,(((Int.toNat t4):Nat):Int),(((Int.toNat t5):Nat):Int),m6)
def gR (fu:Nat) (a1:ae) (b2:ae):Option (Bool):=
 (kW fu b2.time a1.time).bind fun (r3:Int)=>
 some (decide (r3<0))
end F
namespace Gn
open F
def IC (bd:ae→ae→Option Bool) (fu:Nat) (k1:Int) (m2:Int) (m3:List ae) (m4:Int) (m5:List Int) (m6:Int) (m7:List Int):Option (Int×(List ae)×Int×(List Int)×Int×(List Int)):=
 (cond (decide (m2<0)) ((idx m3 k1).bind fun x10=>
  (bd x10 (⟨(⟨m4,m5⟩:bE),m6,m7⟩:ae)).bind fun (r11:Bool)=>
  some r11) (cond (decide (k1<m2)) ((idx m3 k1).bind fun x8=>
  (bd x8 (⟨(⟨m4,m5⟩:bE),m6,m7⟩:ae)).bind fun (r9:Bool)=>
  some r9) (some false))).bind fun (v12:Bool)=>
 (cond v12
   (some k1)
   (some m2)).bind fun (m13:Int)=>
 some (m13,m3,m4,m5,m6,m7)
def sU (bd:ae→ae→Option Bool) (fu:Nat) (l1:Int) (m3:Int) (m4:Int) (m5:Int) (m6:Int) (m7:bC) (v14:Int):Int×Int×(List ae)×Int×(List Int)×Int×(List Int)→Option ((Int×Int×(List ae)×Int×(List Int)×Int×(List Int))⊕(Int×(List ae)×Int×(List Int)×Int×(List Int))):=fun (v21,m22,m23,m24,m25,m26,m27)=>
 cond (decide (v21<(((([((Int.toNat m3),(Int.toNat m4)),((Int.toNat m5),(Int.toNat m6))]:List (Nat×Nat)).getD ((Int.toNat l1)+v14.toNat) (0,0)).2:Nat):Int)))
  ((bq ((0:Int)≤v21∧v21<(((([((Int.toNat m3),(Int.toNat m4)),((Int.toNat m5),(Int.toNat m6))]:List (Nat×Nat)).getD ((Int.toNat l1)+v14.toNat) (0,0)).2:Nat):Int))).bind fun _=>
   (nA m7.es ((([((Int.toNat m3),(Int.toNat m4)),((Int.toNat m5),(Int.toNat m6))]:List (Nat×Nat)).getD ((Int.toNat l1)+v14.toNat) (0,0)).1) v21.toNat).bind fun x28=>
   (IC bd fu x28 m22 m23 m24 m25 m26 m27).bind fun ((r29,r30,r31,r32,r33,r34):Int×(List ae)×Int×(List Int)×Int×(List Int))=>
   some (.inl (IntKind.wrap .i64 (v21+1),r29,r30,r31,r32,r33,r34)))
  (some (.inr (m22,m23,m24,m25,m26,m27)))
def Fw (bd:ae→ae→Option Bool) (fu:Nat) (l1:Int) (l2:Int) (m3:Int) (m4:Int) (m5:Int) (m6:Int) (m7:bC):Int×Int×(List ae)×Int×(List Int)×Int×(List Int)→Option ((Int×Int×(List ae)×Int×(List Int)×Int×(List Int))⊕(Int×(List ae)×Int×(List Int)×Int×(List Int))):=fun (v14,m15,m16,m17,m18,m19,m20)=>
 cond (decide (v14<(((Int.toNat l2):Nat):Int)))
  ((bq ((0:Int)≤v14∧v14<(((Int.toNat l2):Nat):Int))).bind fun _=>
   (bq (((Int.toNat l1)+v14.toNat)<([((Int.toNat m3),(Int.toNat m4)),((Int.toNat m5),(Int.toNat m6))]:List (Nat×Nat)).length)).bind fun _=>
   (aB (sU bd fu l1 m3 m4 m5 m6 m7 v14) fu (0,m15,m16,m17,m18,m19,m20)).bind fun ((m35,m36,m37,m38,m39,m40):Int×(List ae)×Int×(List Int)×Int×(List Int))=>
   some (.inl (IntKind.wrap .i64 (v14+1),m35,m36,m37,m38,m39,m40)))
  (some (.inr (m15,m16,m17,m18,m19,m20)))
def two (bd:ae→ae→Option Bool) (fu:Nat) (l1:Int) (l2:Int) (m3:Int) (m4:Int) (m5:Int) (m6:Int) (m7:bC) (m8:Int) (m9:List ae) (m10:Int) (m11:List Int) (m12:Int) (m13:List Int):Option (bC×Int×(List ae)×Int×(List Int)×Int×(List Int)):=
 (aB (Fw bd fu l1 l2 m3 m4 m5 m6 m7) fu (0,m8,m9,m10,m11,m12,m13)).bind fun ((m41,m42,m43,m44,m45,m46):Int×(List ae)×Int×(List Int)×Int×(List Int))=>
 some (m7,m41,m42,m43,m44,m45,m46)
def vu (bd:ae→ae→Option Bool) (fu:Nat) (l1:Int) (m3:Int) (m4:Int) (m5:bC) (v12:Int):Int×Int×(List ae)×Int×(List Int)×Int×(List Int)→Option ((Int×Int×(List ae)×Int×(List Int)×Int×(List Int))⊕(Int×(List ae)×Int×(List Int)×Int×(List Int))):=fun (v19,m20,m21,m22,m23,m24,m25)=>
 cond (decide (v19<(((([((Int.toNat m3),(Int.toNat m4))]:List (Nat×Nat)).getD ((Int.toNat l1)+v12.toNat) (0,0)).2:Nat):Int)))
  ((bq ((0:Int)≤v19∧v19<(((([((Int.toNat m3),(Int.toNat m4))]:List (Nat×Nat)).getD ((Int.toNat l1)+v12.toNat) (0,0)).2:Nat):Int))).bind fun _=>
   (nA m5.es ((([((Int.toNat m3),(Int.toNat m4))]:List (Nat×Nat)).getD ((Int.toNat l1)+v12.toNat) (0,0)).1) v19.toNat).bind fun x26=>
   (IC bd fu x26 m20 m21 m22 m23 m24 m25).bind fun ((r27,r28,r29,r30,r31,r32):Int×(List ae)×Int×(List Int)×Int×(List Int))=>
   some (.inl (IntKind.wrap .i64 (v19+1),r27,r28,r29,r30,r31,r32)))
  (some (.inr (m20,m21,m22,m23,m24,m25)))
def Gv (bd:ae→ae→Option Bool) (fu:Nat) (l1:Int) (l2:Int) (m3:Int) (m4:Int) (m5:bC):Int×Int×(List ae)×Int×(List Int)×Int×(List Int)→Option ((Int×Int×(List ae)×Int×(List Int)×Int×(List Int))⊕(Int×(List ae)×Int×(List Int)×Int×(List Int))):=fun (v12,m13,m14,m15,m16,m17,m18)=>
 cond (decide (v12<(((Int.toNat l2):Nat):Int)))
  ((bq ((0:Int)≤v12∧v12<(((Int.toNat l2):Nat):Int))).bind fun _=>
   (bq (((Int.toNat l1)+v12.toNat)<([((Int.toNat m3),(Int.toNat m4))]:List (Nat×Nat)).length)).bind fun _=>
   (aB (vu bd fu l1 m3 m4 m5 v12) fu (0,m13,m14,m15,m16,m17,m18)).bind fun ((m33,m34,m35,m36,m37,m38):Int×(List ae)×Int×(List Int)×Int×(List Int))=>
   some (.inl (IntKind.wrap .i64 (v12+1),m33,m34,m35,m36,m37,m38)))
  (some (.inr (m13,m14,m15,m16,m17,m18)))
def one (bd:ae→ae→Option Bool) (fu:Nat) (l1:Int) (l2:Int) (m3:Int) (m4:Int) (m5:bC) (m6:Int) (m7:List ae) (m8:Int) (m9:List Int) (m10:Int) (m11:List Int):Option (bC×Int×(List ae)×Int×(List Int)×Int×(List Int)):=
 (aB (Gv bd fu l1 l2 m3 m4 m5) fu (0,m6,m7,m8,m9,m10,m11)).bind fun ((m39,m40,m41,m42,m43,m44):Int×(List ae)×Int×(List Int)×Int×(List Int))=>
 some (m5,m39,m40,m41,m42,m43,m44)
def mO (bd:ae→ae→Option Bool) (fu:Nat) (n1:aP) (s2:ae) (x10:dh) (r12:Bool):Int×bC×Int×(List ae)×Int×(List Int)×Int×(List Int)×(List gV)→Option ((Int×bC×Int×(List ae)×Int×(List Int)×Int×(List Int)×(List gV))⊕(bC×Int×(List ae)×Int×(List Int)×Int×(List Int)×(List gV))):=fun (v56,m57,m58,m59,m60,m61,m62,m63,m64)=>
 cond (decide (v56<(x10.c9.length:Int)))
  ((idx x10.c9 v56).bind fun x65=>
   (mP fu n1 x65 s2.aQ.At).bind fun ((r66,r67):gV×Bool)=>
   (cond r67 (some r12) (some false)).bind fun (v68:Bool)=>
   (cond v68
     (((bY fu r66 m57).bind fun ((r69,r70,r71,r72):Bool×Int×Int×bC)=>
      (bq (r69=false)).bind fun _=>
      tT ((il r72.es (Int.toNat r70) ((Int.toNat r71)+0)).bind fun p73=>
      (bY fu r66 r72).bind fun ((r74,r75,r76,r77):Bool×Int×Int×bC)=>
      (bq (r74=false)).bind fun _=>
      (il r77.es (Int.toNat r75) ((Int.toNat r76)+1)).bind fun p78=>
      (two bd fu ((0:Nat):Int) ((2:Nat):Int) ((p73.1:Nat):Int) (((List.length p73.2):Nat):Int) ((p78.1:Nat):Int) (((List.length p78.2):Nat):Int) r77 m58 m59 m60 m61 m62 m63).bind fun ((r79,r80,r81,r82,r83,r84,r85):bC×Int×(List ae)×Int×(List Int)×Int×(List Int))=>
      some (r79,r80,r81,r82,r83,r84,r85)) ((bY fu r66 r72).bind fun ((r73,r74,r75,r76):Bool×Int×Int×bC)=>
      (bq (r73=false)).bind fun _=>
      tT ((il r76.es (Int.toNat r70) ((Int.toNat r71)+0)).bind fun p77=>
      (il r76.es (Int.toNat r74) ((Int.toNat r75)+1)).bind fun p78=>
      (two bd fu ((0:Nat):Int) ((2:Nat):Int) ((p77.1:Nat):Int) (((List.length p77.2):Nat):Int) ((p78.1:Nat):Int) (((List.length p78.2):Nat):Int) r76 m58 m59 m60 m61 m62 m63).bind fun ((r79,r80,r81,r82,r83,r84,r85):bC×Int×(List ae)×Int×(List Int)×Int×(List Int))=>
      some (r79,r80,r81,r82,r83,r84,r85)) ((il r76.es (Int.toNat r74) ((Int.toNat r75)+1)).bind fun p77=>
      (il r76.es (Int.toNat r70) ((Int.toNat r71)+0)).bind fun p78=>
      (two bd fu ((0:Nat):Int) ((2:Nat):Int) ((p78.1:Nat):Int) (((List.length p78.2):Nat):Int) ((p77.1:Nat):Int) (((List.length p77.2):Nat):Int) r76 m58 m59 m60 m61 m62 m63).bind fun ((r79,r80,r81,r82,r83,r84,r85):bC×Int×(List ae)×Int×(List Int)×Int×(List Int))=>
      some (r79,r80,r81,r82,r83,r84,r85)))).bind fun ((m86,m87,m88,m89,m90,m91,m92):bC×Int×(List ae)×Int×(List Int)×Int×(List Int))=>
     (bq (m64.length+[r66].length≤maxLen∧(m64.length+[r66].length)*16≤140737488355328)).bind fun _=>
     some (m86,m87,m88,m89,m90,m91,m92,m64++[r66]))
     (some (m57,m58,m59,m60,m61,m62,m63,m64))).bind fun ((m93,m94,m95,m96,m97,m98,m99,m100):bC×Int×(List ae)×Int×(List Int)×Int×(List Int)×(List gV))=>
   some (.inl (IntKind.wrap .i64 (v56+1),m93,m94,m95,m96,m97,m98,m99,m100)))
  (some (.inr (m57,m58,m59,m60,m61,m62,m63,m64)))
def qt (fu:Nat) (s2:ae) (m108:List gV):Int×bC→Option ((Int×bC)⊕bC):=fun (v136,m137)=>
 cond (decide (v136<(m108.length:Int)))
  ((idx m108 v136).bind fun x138=>
   (tT ((bY fu x138 m137).bind fun ((r139,r140,r141,r142):Bool×Int×Int×bC)=>
    tT ((bY fu x138 r142).bind fun ((r143,r144,r145,r146):Bool×Int×Int×bC)=>
    (bq (r143=false)).bind fun _=>
    u7 ((il r146.es (Int.toNat r144) ((Int.toNat r145)+2)).bind fun p147=>
    (pF r146 p147.1 (List.length p147.2) s2.number 8).bind fun m148=>
    (bq (r139=false)).bind fun _=>
    (jY m148 (Int.toNat r140) ((Int.toNat r141)+2) r146.n ((List.length p147.2)+1)).bind fun m149=>
    some m149)) ((bY fu x138 r142).bind fun ((r143,r144,r145,r146):Bool×Int×Int×bC)=>
    (bq (r143=false)).bind fun _=>
    (il r146.es (Int.toNat r144) ((Int.toNat r145)+2)).bind fun p147=>
    (pF r146 p147.1 (List.length p147.2) s2.number 8).bind fun m148=>
    (bq (r139=false)).bind fun _=>
    (jY m148 (Int.toNat r140) ((Int.toNat r141)+2) r146.n ((List.length p147.2)+1)).bind fun m149=>
    some m149)) ((bY fu x138 m137).bind fun ((r139,r140,r141,r142):Bool×Int×Int×bC)=>
    (bY fu x138 r142).bind fun ((r143,r144,r145,r146):Bool×Int×Int×bC)=>
    (bq (r143=false)).bind fun _=>
    (il r146.es (Int.toNat r144) ((Int.toNat r145)+2)).bind fun p147=>
    (pF r146 p147.1 (List.length p147.2) s2.number 8).bind fun m148=>
    (bq (r139=false)).bind fun _=>
    (jY m148 (Int.toNat r140) ((Int.toNat r141)+2) r146.n ((List.length p147.2)+1)).bind fun m149=>
    some m149)).bind fun (m150:bC)=>
   some (.inl (IntKind.wrap .i64 (v136+1),m150)))
  (some (.inr m137))
def wv (bd:ae→ae→Option Bool) (fu:Nat) (n1:aP) (s2:ae) (m3:bC) (m4:Int) (m5:List ae) (m6:Int) (m7:List Int) (m8:Int) (m9:List Int):Option (bC×Int×(List ae)×Int×(List Int)×Int×(List Int)):=
 (idx n1.cd s2.aQ.Stmt).bind fun x10=>
 (mP fu n1 x10.cf s2.aQ.At).bind fun ((r11,r12):gV×Bool)=>
 (cond (x10.Do==9) (some true) (some (x10.Do==10))).bind fun (adds13:Bool)=>
 (cond r12
   ((bY fu r11 m3).bind fun ((r14,r15,r16,r17):Bool×Int×Int×bC)=>
    ((bq (r14=false)).bind fun _=>
     (bq (r14=false)).bind fun _=>
     tT ((il r17.es (Int.toNat r15) ((Int.toNat r16)+0)).bind fun p18=>
     (il r17.es (Int.toNat r15) ((Int.toNat r16)+2)).bind fun p19=>
     (two bd fu ((0:Nat):Int) ((2:Nat):Int) ((p18.1:Nat):Int) (((List.length p18.2):Nat):Int) ((p19.1:Nat):Int) (((List.length p19.2):Nat):Int) r17 m4 m5 m6 m7 m8 m9).bind fun ((r20,r21,r22,r23,r24,r25,r26):bC×Int×(List ae)×Int×(List Int)×Int×(List Int))=>
     some (r20,r21,r22,r23,r24,r25,r26)) ((il r17.es (Int.toNat r15) ((Int.toNat r16)+2)).bind fun p18=>
     (il r17.es (Int.toNat r15) ((Int.toNat r16)+0)).bind fun p19=>
     (two bd fu ((0:Nat):Int) ((2:Nat):Int) ((p19.1:Nat):Int) (((List.length p19.2):Nat):Int) ((p18.1:Nat):Int) (((List.length p18.2):Nat):Int) r17 m4 m5 m6 m7 m8 m9).bind fun ((r20,r21,r22,r23,r24,r25,r26):bC×Int×(List ae)×Int×(List Int)×Int×(List Int))=>
     some (r20,r21,r22,r23,r24,r25,r26))).bind fun ((m27,m28,m29,m30,m31,m32,m33):bC×Int×(List ae)×Int×(List Int)×Int×(List Int))=>
    (cond (!adds13)
      ((bq (r14=false)).bind fun _=>
      (il m27.es (Int.toNat r15) ((Int.toNat r16)+1)).bind fun p34=>
      (one bd fu ((0:Nat):Int) ((1:Nat):Int) ((p34.1:Nat):Int) (((List.length p34.2):Nat):Int) m27 m28 m29 m30 m31 m32 m33).bind fun ((r35,r36,r37,r38,r39,r40,r41):bC×Int×(List ae)×Int×(List Int)×Int×(List Int))=>
      some (r35,r36,r37,r38,r39,r40,r41))
      (some (m27,m28,m29,m30,m31,m32,m33))).bind fun ((m42,m43,m44,m45,m46,m47,m48):bC×Int×(List ae)×Int×(List Int)×Int×(List Int))=>
    some (m42,m43,m44,m45,m46,m47,m48))
   (some (m3,m4,m5,m6,m7,m8,m9))).bind fun ((m49,m50,m51,m52,m53,m54,m55):bC×Int×(List ae)×Int×(List Int)×Int×(List Int))=>
 (aB (mO bd fu n1 s2 x10 r12) fu (0,m49,m50,m51,m52,m53,m54,m55,([]:List gV))).bind fun ((m101,m102,m103,m104,m105,m106,m107,m108):bC×Int×(List ae)×Int×(List Int)×Int×(List Int)×(List gV))=>
 (cond r12 (some adds13) (some false)).bind fun (v109:Bool)=>
 (cond v109
   ((tT ((bY fu r11 m101).bind fun ((r110,r111,r112,r113):Bool×Int×Int×bC)=>
     tT ((bY fu r11 r113).bind fun ((r114,r115,r116,r117):Bool×Int×Int×bC)=>
     (bq (r114=false)).bind fun _=>
     u7 ((il r117.es (Int.toNat r115) ((Int.toNat r116)+1)).bind fun p118=>
     (pF r117 p118.1 (List.length p118.2) s2.number 8).bind fun m119=>
     (bq (r110=false)).bind fun _=>
     (jY m119 (Int.toNat r111) ((Int.toNat r112)+1) r117.n ((List.length p118.2)+1)).bind fun m120=>
     some m120)) ((bY fu r11 r113).bind fun ((r114,r115,r116,r117):Bool×Int×Int×bC)=>
     (bq (r114=false)).bind fun _=>
     (il r117.es (Int.toNat r115) ((Int.toNat r116)+1)).bind fun p118=>
     (pF r117 p118.1 (List.length p118.2) s2.number 8).bind fun m119=>
     (bq (r110=false)).bind fun _=>
     (jY m119 (Int.toNat r111) ((Int.toNat r112)+1) r117.n ((List.length p118.2)+1)).bind fun m120=>
     some m120)) ((bY fu r11 m101).bind fun ((r110,r111,r112,r113):Bool×Int×Int×bC)=>
     (bY fu r11 r113).bind fun ((r114,r115,r116,r117):Bool×Int×Int×bC)=>
     (bq (r114=false)).bind fun _=>
     (il r117.es (Int.toNat r115) ((Int.toNat r116)+1)).bind fun p118=>
     (pF r117 p118.1 (List.length p118.2) s2.number 8).bind fun m119=>
     (bq (r110=false)).bind fun _=>
     (jY m119 (Int.toNat r111) ((Int.toNat r112)+1) r117.n ((List.length p118.2)+1)).bind fun m120=>
     some m120)).bind fun (m121:bC)=>
    some m121)
   ((cond r12
      ((tT ((bY fu r11 m101).bind fun ((r122,r123,r124,r125):Bool×Int×Int×bC)=>
       tT ((bY fu r11 r125).bind fun ((r126,r127,r128,r129):Bool×Int×Int×bC)=>
       (bq (r126=false)).bind fun _=>
       u7 ((il r129.es (Int.toNat r127) ((Int.toNat r128)+0)).bind fun p130=>
       (pF r129 p130.1 (List.length p130.2) s2.number 8).bind fun m131=>
       (bq (r122=false)).bind fun _=>
       (jY m131 (Int.toNat r123) ((Int.toNat r124)+0) r129.n ((List.length p130.2)+1)).bind fun m132=>
       some m132)) ((bY fu r11 r125).bind fun ((r126,r127,r128,r129):Bool×Int×Int×bC)=>
       (bq (r126=false)).bind fun _=>
       (il r129.es (Int.toNat r127) ((Int.toNat r128)+0)).bind fun p130=>
       (pF r129 p130.1 (List.length p130.2) s2.number 8).bind fun m131=>
       (bq (r122=false)).bind fun _=>
       (jY m131 (Int.toNat r123) ((Int.toNat r124)+0) r129.n ((List.length p130.2)+1)).bind fun m132=>
       some m132)) ((bY fu r11 m101).bind fun ((r122,r123,r124,r125):Bool×Int×Int×bC)=>
       (bY fu r11 r125).bind fun ((r126,r127,r128,r129):Bool×Int×Int×bC)=>
       (bq (r126=false)).bind fun _=>
       (il r129.es (Int.toNat r127) ((Int.toNat r128)+0)).bind fun p130=>
       (pF r129 p130.1 (List.length p130.2) s2.number 8).bind fun m131=>
       (bq (r122=false)).bind fun _=>
       (jY m131 (Int.toNat r123) ((Int.toNat r124)+0) r129.n ((List.length p130.2)+1)).bind fun m132=>
       some m132)).bind fun (m133:bC)=>
      some m133)
      (some m101)).bind fun (m134:bC)=>
    some m134)).bind fun (m135:bC)=>
 (aB (qt fu s2 m108) fu (0,m135)).bind fun (m151:bC)=>
 some (m151,m102,m103,m104,m105,m106,m107)
def ru (bd:ae→ae→Option Bool) (fu:Nat) (n1:aP) (r4:List ae):Int×bC×(List ae)×Bool×Int×(List Int)×Int×(List Int)→Option ((Int×bC×(List ae)×Bool×Int×(List Int)×Int×(List Int))⊕(Ex (bC×(List ae)×Bool×Int×(List Int)×Int×(List Int)) (iR×Int))):=fun (v5,m6,m7,m8,m9,m10,m11,m12)=>
 cond (decide (v5<(r4.length:Int)))
  ((idx r4 v5).bind fun x13=>
   (wv bd fu n1 (⟨(⟨x13.aQ.Stmt,x13.aQ.At⟩:bE),x13.number,x13.time⟩:ae) m6 (-1) m7 x13.aQ.Stmt x13.aQ.At x13.number x13.time).bind fun ((r14,r15,r16,r17,r18,r19,r20):bC×Int×(List ae)×Int×(List Int)×Int×(List Int))=>
   cond (decide (r15≥0))
    ((idx r16 r15).bind fun x21=>
    some (.inr (.ret ((⟨true,(⟨x21.aQ.Stmt,x21.aQ.At⟩:bE),(⟨r17,r18⟩:bE)⟩:iR),0))))
    (some (.inl (IntKind.wrap .i64 (v5+1),r14,r16,m8,m9,m10,m11,m12))))
  (some (.inr (.dS (m6,m7,m8,m9,m10,m11,m12))))
def search (bd:ae→ae→Option Bool) (fu:Nat) (n1:aP) (times2:List (List aS)):Option (iR×Int):=
 (im fu n1 times2).bind fun ((r3,r4):Int×(List ae))=>
 cond (r3 !=0)
  (some ((⟨false,(⟨0,([]:List Int)⟩:bE),(⟨0,([]:List Int)⟩:bE)⟩:iR),r3))
  (eR (fun r=>r) (aB (ru bd fu n1 r4) fu (0,(⟨0,[],none⟩:bC),r4,false,0,([]:List Int),0,([]:List Int)):Option (Ex (bC×(List ae)×Bool×Int×(List Int)×Int×(List Int)) (iR×Int))) fun ((m22,m23,m24,m25,m26,m27,m28):bC×(List ae)×Bool×Int×(List Int)×Int×(List Int))=>
   some ((⟨false,(⟨0,([]:List Int)⟩:bE),(⟨0,([]:List Int)⟩:bE)⟩:iR),0))
end Gn
namespace F
def AL (fu:Nat):=Gn.IC (gR fu) fu
def BZ (fu:Nat):=Gn.two (gR fu) fu
def BY (fu:Nat):=Gn.one (gR fu) fu
def EP (fu:Nat):=Gn.wv (gR fu) fu
def td (fu:Nat):=Gn.search (gR fu) fu
def qW (fu:Nat) (n1:aP) (times2:List (List aS)):Option (iR×Int):=
 (td fu n1 times2).bind fun ((r3,r4):iR×Int)=>
 some ((⟨r3.Any,(⟨r3.A.Stmt,r3.A.At⟩:bE),r3.B⟩:iR),r4)
def pE (fu:Nat) (v1:List Int) (m2:List Int) (m3:List aS) (m4:Int) (m5:Int) (m6:Int) (m7:List Int) (m8:Int) (m9:List bF) (m10:List (List Int)):Option ((List Int)×(List aS)×Int×Int×Int×(List Int)×Int×(List bF)×(List (List Int))):=
 (lb fu (⟨(⟨m2,m3⟩:bp),m4,m5,(⟨m6,(⟨m7,m8⟩:aS)⟩:bF),m9⟩:dh) v1 m10).bind fun (r11:List (List Int))=>
 bif Nat.beq (List.length r11) (List.length m10) then
 some (m2,m3,m4,m5,m6,m7,m8,m9,r11)
 else none
def lG (self:bp→Int→(List Int)→(List Int)→(List aS)→Int→Int→Int→(List Int)→Int→(List bF)→(List (List Int))→Option (Bool×(List Int)×(List Int)×(List aS)×Int×Int×Int×(List Int)×Int×(List bF)×(List (List Int)))) (fu:Nat) (p1:bp) (k2:Int):(List Int)×(List Int)×(List aS)×Int×Int×Int×(List Int)×Int×(List bF)×(List (List Int))→Option (((List Int)×(List Int)×(List aS)×Int×Int×Int×(List Int)×Int×(List bF)×(List (List Int)))⊕(Ex ((List Int)×(List Int)×(List aS)×Int×Int×Int×(List Int)×Int×(List bF)×(List (List Int))) (Bool×(List Int)×(List Int)×(List aS)×Int×Int×Int×(List Int)×Int×(List bF)×(List (List Int))))):=fun (m25,m26,m27,m28,m29,m30,m31,m32,m33,m34)=>
 (idx m25 k2).bind fun x50=>
 (idx p1.ba k2).bind fun x51=>
 cond (decide (x50<x51))
  ((self p1 (IntKind.wrap .i64 (k2+1)) m25 m26 m27 m28 m29 m30 m31 m32 m33 m34).bind fun ((r52,r53,r54,r55,r56,r57,r58,r59,r60,r61,r62):Bool×(List Int)×(List Int)×(List aS)×Int×Int×Int×(List Int)×Int×(List bF)×(List (List Int)))=>
   bif Nat.beq (List.length r53) (List.length m25) then
   bif Nat.beq (List.length r62) (List.length m34) then
   cond (!r52)
    (some (.inr (.ret (false,r53,r54,r55,r56,r57,r58,r59,r60,r61,r62))))
    ((idx r53 k2).bind fun x63=>
    (idx r53 k2).bind fun x64=>
    some (.inl (r53.set k2.toNat (IntKind.wrap .i64 (x63+1)),r54,r55,r56,r57,r58,r59,r60,r61,r62)))
   else none
   else none)
  (some (.inr (.dS (m25,m26,m27,m28,m29,m30,m31,m32,m33,m34))))
def pt (self:bp→Int→(List Int)→(List Int)→(List aS)→Int→Int→Int→(List Int)→Int→(List bF)→(List (List Int))→Option (Bool×(List Int)×(List Int)×(List aS)×Int×Int×Int×(List Int)×Int×(List bF)×(List (List Int)))) (fu:Nat) (p1:bp) (k2:Int) (m3:List Int) (m4:List Int) (m5:List aS) (m6:Int) (m7:Int) (m8:Int) (m9:List Int) (m10:Int) (m11:List bF) (m12:List (List Int)):Option (Bool×(List Int)×(List Int)×(List aS)×Int×Int×Int×(List Int)×Int×(List bF)×(List (List Int))):=
 (kG fu p1 m3 k2).bind fun (r13:Bool)=>
 cond r13
  (some (true,m3,m4,m5,m6,m7,m8,m9,m10,m11,m12))
  (cond (k2==(p1.ba.length:Int))
    ((kX fu m3).bind fun (r14:List Int)=>
    (pE fu r14 m4 m5 m6 m7 m8 m9 m10 m11 m12).bind fun ((r15,r16,r17,r18,r19,r20,r21,r22,r23):(List Int)×(List aS)×Int×Int×Int×(List Int)×Int×(List bF)×(List (List Int)))=>
    bif Nat.beq (List.length r23) (List.length m12) then
    some (true,m3,r15,r16,r17,r18,r19,r20,r21,r22,r23)
    else none)
    ((idx m3 k2).bind fun x24=>
    eR (fun r=>r) (aB (lG self fu p1 k2) fu (m3.set k2.toNat 0,m4,m5,m6,m7,m8,m9,m10,m11,m12):Option (Ex ((List Int)×(List Int)×(List aS)×Int×Int×Int×(List Int)×Int×(List bF)×(List (List Int))) (Bool×(List Int)×(List Int)×(List aS)×Int×Int×Int×(List Int)×Int×(List bF)×(List (List Int))))) fun ((m65,m66,m67,m68,m69,m70,m71,m72,m73,m74):(List Int)×(List Int)×(List aS)×Int×Int×Int×(List Int)×Int×(List bF)×(List (List Int)))=>
    some (true,m65,m66,m67,m68,m69,m70,m71,m72,m73,m74)))
def jy:Nat→bp→Int→(List Int)→(List Int)→(List aS)→Int→Int→Int→(List Int)→Int→(List bF)→(List (List Int))→Option (Bool×(List Int)×(List Int)×(List aS)×Int×Int×Int×(List Int)×Int×(List bF)×(List (List Int)))
 | 0=>fun _ _ _ _ _ _ _ _ _ _ _ _=>none
 | fu+1=>pt (jy fu) (fu+1)
def nv (fu:Nat) (m1:List Int) (m2:List aS) (m3:List Int) (m4:List aS) (m5:Int) (m6:Int) (m7:Int) (m8:List Int) (m9:Int) (m10:List bF) (m11:List (List Int)):Option ((List Int)×(List aS)×(List Int)×(List aS)×Int×Int×Int×(List Int)×Int×(List bF)×(List (List Int))):=
 (jb fu (⟨m1,m2⟩:bp)).bind fun (r12:Int)=>
 (cond (r12==0)
   ((bq ((0:Int)≤(m1.length:Int)∧(m1.length:Int)≤(m1.length:Int)∧((8:Nat):Int)*(m1.length:Int)≤281474976710656∧(m1.length:Int)≤9223372036854775807)).bind fun _=>
    (jy fu (⟨m1,m2⟩:bp) 0 (List.replicate (Int.toNat (m1.length:Int)) (0:Int)) m3 m4 m5 m6 m7 m8 m9 m10 m11).bind fun ((r13,r14,r15,r16,r17,r18,r19,r20,r21,r22,r23):Bool×(List Int)×(List Int)×(List aS)×Int×Int×Int×(List Int)×Int×(List bF)×(List (List Int)))=>
    bif Nat.beq (List.length r14) (List.length (List.replicate (Int.toNat (m1.length:Int)) (0:Int))) then
    bif Nat.beq (List.length r23) (List.length m11) then
    some (r15,r16,r17,r18,r19,r20,r21,r22,r23)
    else none
    else none)
   (some (m3,m4,m5,m6,m7,m8,m9,m10,m11))).bind fun ((m24,m25,m26,m27,m28,m29,m30,m31,m32):(List Int)×(List aS)×Int×Int×Int×(List Int)×Int×(List bF)×(List (List Int)))=>
 some (m1,m2,m24,m25,m26,m27,m28,m29,m30,m31,m32)
def oe (fu:Nat) (n1:aP):Int×(List (List Int))→Option ((Int×(List (List Int)))⊕(List (List Int))):=fun (v6,m7)=>
 cond (decide (v6<(n1.cd.length:Int)))
  ((idx n1.cd v6).bind fun x8=>
   (pw fu x8.bI).bind fun ((r9,r10):(List Int)×(List aS))=>
   (nv fu r9 r10 x8.bI.ba x8.bI.Rows x8.Do x8.Value x8.cf.Array x8.cf.At.cZ x8.cf.At.Const x8.c9 m7).bind fun ((r11,r12,r13,r14,r15,r16,r17,r18,r19,r20,r21):(List Int)×(List aS)×(List Int)×(List aS)×Int×Int×Int×(List Int)×Int×(List bF)×(List (List Int)))=>
   bif Nat.beq (List.length r21) (List.length m7) then
   some (.inl (IntKind.wrap .i64 (v6+1),r21))
   else none)
  (some (.inr m7))
def mS (fu:Nat) (n1:aP) (mem2:List (List Int)):Option ((List (List Int))×Int):=
 (pD fu n1).bind fun (r3:Int)=>
 cond (r3 !=0)
  (some (([]:List (List Int)),r3))
  ((gL fu n1 mem2).bind fun ((r4,r5):Int×(List (List Int)))=>
   cond (r4 !=0)
    (some (([]:List (List Int)),r4))
    ((aB (oe fu n1) fu (0,r5)).bind fun (m22:List (List Int))=>
    some (m22,0)))
def gU (fu:Nat) (a1:List (List Int)) (b2:List (List Int)) (v3:Int) (x6:List Int):Int→Option (Int⊕(Ex Unit (Int⊕(Ex Unit Bool)))):=fun v7=>
 cond (decide (v7<(x6.length:Int)))
  ((idx a1 v3).bind fun x8=>
   (idx x8 v7).bind fun x9=>
   (idx b2 v3).bind fun x10=>
   (idx x10 v7).bind fun x11=>
   cond (x9 !=x11)
    (some (.inr (.ret (.inr (.ret false)))))
    (some (.inl (IntKind.wrap .i64 (v7+1)))))
  (some (.inr (.dS ())))
def gT (fu:Nat) (a1:List (List Int)) (b2:List (List Int)):Int→Option (Int⊕(Ex Unit Bool)):=fun v3=>
 cond (decide (v3<(a1.length:Int)))
  ((idx a1 v3).bind fun x4=>
   (idx b2 v3).bind fun x5=>
   cond ((x4.length:Int) !=(x5.length:Int))
    (some (.inr (.ret false)))
    ((idx a1 v3).bind fun x6=>
    eR (fun r=>r) (aB (gU fu a1 b2 v3 x6) fu 0:Option (Ex Unit (Int⊕(Ex Unit Bool)))) fun (_:Unit)=>
    some (.inl (IntKind.wrap .i64 (v3+1)))))
  (some (.inr (.dS ())))
def gu (fu:Nat) (a1:List (List Int)) (b2:List (List Int)):Option (Bool):=
 cond ((a1.length:Int) !=(b2.length:Int))
  (some false)
  (eR (fun r=>r) (aB (gT fu a1 b2) fu 0:Option (Ex Unit Bool)) fun (_:Unit)=>
   some true)
def iP (fu:Nat) (n1:aP) (times2:List (List aS)) (mem3:List (List Int)):Option (Bool):=
 (ji fu).bind fun (r4:Bool)=>
 cond (!r4)
  (some false)
  ((qW fu n1 times2).bind fun ((r5,r6):iR×Int)=>
   (cond (r6 !=0) (some true) (some r5.Any)).bind fun (v7:Bool)=>
   cond v7
    (some true)
    ((mS fu n1 mem3).bind fun ((r8,r9):(List (List Int))×Int)=>
    cond (r9 !=0)
     (some true)
     ((jN fu n1 times2 mem3 ([]:List Int)).bind fun ((r10,r11):(List (List Int))×Int)=>
      (cond (r11==0) ((gu fu r8 r10).bind fun (r12:Bool)=>
       some r12) (some false)).bind fun (v13:Bool)=>
      some v13)))
end F
end
end Go.DN
