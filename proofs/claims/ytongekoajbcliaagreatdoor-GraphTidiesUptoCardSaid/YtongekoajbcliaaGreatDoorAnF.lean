/-
  The functions, as Lean functions over data.
-/
import Derived.Test.YtongekoajbcliaaGreatDoorAnS
set_option maxRecDepth 20000
set_option linter.unusedVariables false
set_option linter.unusedSimpArgs false
namespace Go.DN
open Go.AM
noncomputable section
open Go.IntKind (wrap)
open Int (toNat)
namespace F
def vB (fu:Nat) (kind1:Int):Option Int:=
 cond (kind1==2)
  (some 0)
  ((cond (kind1==9)
     (some (kind1==9))
     ((cond (kind1==10)
       (some (kind1==10))
       ((cond (kind1==11)
          (some (kind1==11))
          ((cond (kind1==12)
            (some (kind1==12))
            ((cond (kind1==13)
               (some (kind1==13))
               ((cond (kind1==14)
                 (some (kind1==14))
                 (some (kind1==15))).bind fun v2=>
               some v2)).bind fun v3=>
             some v3)).bind fun v4=>
          some v4)).bind fun v5=>
        some v5)).bind fun v6=>
     some v6)).bind fun v7=>
   cond v7
    (some 1)
    ((cond (kind1==3)
      (some (kind1==3))
      ((cond (kind1==4)
         (some (kind1==4))
         ((cond (kind1==5)
           (some (kind1==5))
           ((cond (kind1==6)
              (some (kind1==6))
              ((cond (kind1==7)
                (some (kind1==7))
                ((cond (kind1==16)
                   (some (kind1==16))
                   ((cond (kind1==18)
                     (some (kind1==18))
                     (some (kind1==19))).bind fun v8=>
                   some v8)).bind fun v9=>
                 some v9)).bind fun v10=>
              some v10)).bind fun v11=>
            some v11)).bind fun v12=>
         some v12)).bind fun v13=>
       some v13)).bind fun v14=>
    cond v14
     (some 2)
     (cond (kind1==8)
       (some 3)
       (cond (kind1==17)
        (some (-1))
        (some (-2))))))
def qw (fu:Nat) (d1:Int):Option Bool:=
 (cond (decide (d1<0)) (some true) (some (decide (d1>4096)))).bind fun v2=>
 some v2
def sS (fu:Nat) (s1:List Int):Int→Option (Int⊕(Ex Unit Int)):=fun v2=>
 cond (decide (v2<(s1.length:Int)))
  ((idx s1 v2).bind fun x3=>
   (qw fu x3).bind fun r4=>
   cond r4
    (some (.inr (.ret v2)))
    (some (.inl (wrap .i64 (v2+1)))))
  (some (.inr (.bJ ())))
def qW (fu:Nat) (s1:List Int):Option Int:=
 bd (fun r=>r) (aP (sS fu s1) fu 0:Option (Ex Unit Int)) fun (_:Unit)=>
 some (-1)
def lT (fu:Nat) (s1:List Int):Option Bool:=
 (qW fu s1).bind fun r2=>
 some (decide (r2≥0))
def xa (fu:Nat) (s1:List Int) (v2:Int):Int→Option (Int⊕(Ex Unit Int)):=fun v3=>
 cond (decide (v3<(s1.length:Int)))
  ((idx s1 v3).bind fun x4=>
   cond (v2==x4)
    (some (.inr (.ret v3)))
    (some (.inl (wrap .i64 (v3+1)))))
  (some (.inr (.bJ ())))
def vS (fu:Nat) (s1:List Int) (v2:Int):Option Int:=
 bd (fun r=>r) (aP (xa fu s1 v2) fu 0:Option (Ex Unit Int)) fun (_:Unit)=>
 some (-1)
def iE (fu:Nat) (s1:List Int) (v2:Int):Option Bool:=
 (vS fu s1 v2).bind fun r3=>
 some (decide (r3≥0))
def lD (fu:Nat) (dims1:List Int):Int×Int→Option ((Int×Int)⊕(Ex Int (Int×Int))):=fun (n3,v4)=>
 cond (decide (v4<(dims1.length:Int)))
  ((idx dims1 v4).bind fun x5=>
   (cond (decide ((wrap .i64 (n3*x5))>65536)) ((iE fu dims1 0).bind fun r6=>
    some (!r6)) (some false)).bind fun v7=>
   cond v7
    (some (.inr (.ret (0,5))))
    (some (.inl ((if 65537<(wrap .i64 (n3*x5)) then 65537 else(wrap .i64 (n3*x5))),wrap .i64 (v4+1)))))
  (some (.inr (.bJ n3)))
def jF (fu:Nat) (dims1:List Int):Option (Int×Int):=
 cond (decide ((dims1.length:Int)>6))
  (some (0,3))
  ((lT fu dims1).bind fun r2=>
   cond r2
    (some (0,4))
    (bd (fun r=>r) (aP (lD fu dims1) fu (1,0):Option (Ex Int (Int×Int))) fun (n8:Int)=>
    some (n8,0)))
def qS (fu:Nat) (args2:List (List Int)):Int→Option (Int⊕(Ex Unit Int)):=fun v5=>
 cond (decide (v5<(args2.length:Int)))
  ((idx args2 v5).bind fun x6=>
   (jF fu x6).bind fun (r7,r8)=>
   cond (r8 !=0)
    (some (.inr (.ret r8)))
    (some (.inl (wrap .i64 (v5+1)))))
  (some (.inr (.bJ ())))
def gv (fu:Nat) (op1:cy) (args2:List (List Int)):Option Int:=
 (vB fu op1.Kind).bind fun r3=>
 cond (r3==(-2))
  (some 1)
  ((cond (decide (r3≥0)) (cond (r3 !=(args2.length:Int)) (some true) (cond (r3==(-1)) (some ((args2.length:Int)==0)) (some false))) (cond (r3==(-1)) (some ((args2.length:Int)==0)) (some false))).bind fun v4=>
   cond v4
    (some 2)
    (bd (fun r=>r) (aP (qS fu args2) fu 0:Option (Ex Unit Int)) fun (_:Unit)=>
    some 0))
def cS (fu:Nat) (s1:List Int):Option (List Int):=
 EC (s1.length:Int) (some ([]:List Int)) ((bj (([]:List Int).length+s1.length≤maxLen∧(([]:List Int).length+s1.length)*8≤140737488355328)).bind fun _=>
 some (([]:List Int)++s1))
def oS (fu:Nat) (s1:List Int) (s2:List Int):Int→Option (Int⊕(Ex Unit Bool)):=fun v3=>
 cond (decide (v3<(s1.length:Int)))
  ((idx s1 v3).bind fun x4=>
   (idx s2 v3).bind fun x5=>
   cond (x4 !=x5)
    (some (.inr (.ret false)))
    (some (.inl (wrap .i64 (v3+1)))))
  (some (.inr (.bJ ())))
def pq (fu:Nat) (s1:List Int) (s2:List Int):Option Bool:=
 cond ((s1.length:Int) !=(s2.length:Int))
  (some false)
  (bd (fun r=>r) (aP (oS fu s1 s2) fu 0:Option (Ex Unit Bool)) fun (_:Unit)=>
   some true)
def xD (fu:Nat) (x1:Int):Option Bool:=
 some (x1 !=x1)
def Az (fu:Nat) (x1:Int) (y2:Int):Option Bool:=
 ((xD fu x1).bind fun r3=>
  cond r3 ((xD fu y2).bind fun r4=>
  cond (!r4) (some true) (some (decide (x1<y2)))) (some (decide (x1<y2)))).bind fun v5=>
 some v5
def mr (fu:Nat) (x1:List Int):Int→Option (Int⊕(Ex Unit Bool)):=fun i2=>
 cond (decide (i2>0))
  ((idx x1 i2).bind fun x3=>
   (idx x1 (wrap .i64 (i2-1))).bind fun x4=>
   (Az fu x3 x4).bind fun r5=>
   cond r5
    (some (.inr (.ret false)))
    (some (.inl (wrap .i64 (i2-1)))))
  (some (.inr (.bJ ())))
def oR (fu:Nat) (x1:List Int):Option Bool:=
 bd (fun r=>r) (aP (mr fu x1) fu (wrap .i64 ((x1.length:Int)-1)):Option (Ex Unit Bool)) fun (_:Unit)=>
 some true
def np (fu:Nat) (at1:List Int) (rank2:Int):Int×(List Bool)→Option ((Int×(List Bool))⊕(Ex (List Bool) Bool)):=fun (v3,m4)=>
 cond (decide (v3<(at1.length:Int)))
  ((idx at1 v3).bind fun x5=>
   (cond (decide (x5<0)) (some true) (cond (decide (x5≥rank2)) (some true) ((idx m4 x5).bind fun x6=>
    some x6))).bind fun v7=>
   cond v7
    (some (.inr (.ret false)))
    ((idx m4 x5).bind fun x8=>
    some (.inl (wrap .i64 (v3+1),m4.set x5.toNat true))))
  (some (.inr (.bJ m4)))
def ly (fu:Nat) (at1:List Int) (rank2:Int):Option Bool:=
 (bj ((0:Int)≤rank2∧rank2≤rank2∧((1:Nat):Int)*rank2≤281474976710656∧rank2≤9223372036854775807)).bind fun _=>
 bd (fun r=>r) (aP (np fu at1 rank2) fu (0,List.replicate (toNat rank2) (false:Bool)):Option (Ex (List Bool) Bool)) fun (m9:List Bool)=>
 some true
def sJ (fu:Nat) (at1:List Int) (rank2:Int):Option Bool:=
 ((oR fu at1).bind fun r3=>
  cond r3 ((ly fu at1 rank2).bind fun r4=>
  some r4) (some false)).bind fun v5=>
 some v5
def oZ (fu:Nat) (at1:List Int) (dims2:List Int):Int×(List Int)→Option ((Int×(List Int))⊕(List Int)):=fun (v4,m5)=>
 cond (decide (v4<(dims2.length:Int)))
  ((idx dims2 v4).bind fun x6=>
   (iE fu at1 v4).bind fun r7=>
   (cond (!r7)
     ((bj (m5.length+[x6].length≤maxLen∧(m5.length+[x6].length)*8≤140737488355328)).bind fun _=>
     some (m5++[x6]))
     (some m5)).bind fun m8=>
   some (.inl (wrap .i64 (v4+1),m8)))
  (some (.inr m5))
def sI (fu:Nat) (at1:List Int) (dims2:List Int):Option ((List Int)×Int):=
 (sJ fu at1 (dims2.length:Int)).bind fun r3=>
 cond (!r3)
  (some (([]:List Int),6))
  ((aP (oZ fu at1 dims2) fu (0,([]:List Int))).bind fun m9=>
   some (m9,0))
def lx (fu:Nat) (x1:Int) (least2:Int):Option Bool:=
 (cond (decide (x1<least2)) (some true) (some (decide (x1>4096)))).bind fun v3=>
 some v3
def o8 (fu:Nat) (op1:cy) (dims2:List Int):Int×(List Int)→Option ((Int×(List Int))⊕(Ex (List Int) ((List Int)×Int))):=fun (v4,m5)=>
 cond (decide (v4<(dims2.length:Int)))
  (((idx op1.Lo v4).bind fun x6=>
    (lx fu x6 0).bind fun r7=>
    cond r7 (some true) ((idx op1.Hi v4).bind fun x8=>
    (lx fu x8 0).bind fun r9=>
    cond r9 (some true) ((idx op1.Step v4).bind fun x10=>
    (lx fu x10 1).bind fun r11=>
    some r11))).bind fun v12=>
   cond v12
    (some (.inr (.ret (([]:List Int),4))))
    ((idx op1.Lo v4).bind fun x13=>
    (idx op1.Hi v4).bind fun x14=>
    (idx m5 v4).bind fun x15=>
    (idx dims2 v4).bind fun x16=>
    (cond (decide (x16>0))
      ((idx (m5.set v4.toNat (wrap .i64 (x13+x14))) v4).bind fun x17=>
       (idx dims2 v4).bind fun x18=>
       (idx op1.Step v4).bind fun x19=>
       (idx (m5.set v4.toNat (wrap .i64 (x13+x14))) v4).bind fun x20=>
       some ((m5.set v4.toNat (wrap .i64 (x13+x14))).set v4.toNat (wrap .i64 (x17+(wrap .i64 ((wrap .i64 ((wrap .i64 (x18-1))*x19))+1))))))
      (some (m5.set v4.toNat (wrap .i64 (x13+x14))))).bind fun m21=>
    some (.inl (wrap .i64 (v4+1),m21))))
  (some (.inr (.bJ m5)))
def sN (fu:Nat) (op1:cy) (dims2:List Int):Option ((List Int)×Int):=
 (cond ((op1.Lo.length:Int) !=(dims2.length:Int)) (some true) (cond ((op1.Hi.length:Int) !=(dims2.length:Int)) (some true) (some ((op1.Step.length:Int) !=(dims2.length:Int))))).bind fun v3=>
 cond v3
  (some (([]:List Int),6))
  ((bj ((0:Int)≤(dims2.length:Int)∧(dims2.length:Int)≤(dims2.length:Int)∧((8:Nat):Int)*(dims2.length:Int)≤281474976710656∧(dims2.length:Int)≤9223372036854775807)).bind fun _=>
   bd (fun r=>r) (aP (o8 fu op1 dims2) fu (0,List.replicate (toNat (dims2.length:Int)) (0:Int)):Option (Ex (List Int) ((List Int)×Int))) fun (m22:List Int)=>
   some (m22,0))
def tM (fu:Nat) (d1:Int) (m2:List Int) (m3:List Int) (m4:Int) (m5:Int) (m6:Int) (m7:Int) (m8:List Int):Option ((List Int)×(List Int)×Int×Int×Int×Int×(List Int)):=
 some (m2,m3,(if 65537<(wrap .i64 (m4*d1)) then 65537 else(wrap .i64 (m4*d1))),m5,m6,m7,m8)
def tL (fu:Nat) (d1:Int) (m2:List Int) (m3:List Int) (m4:Int) (m5:Int) (m6:Int) (m7:Int) (m8:List Int):Option ((List Int)×(List Int)×Int×Int×Int×Int×(List Int)):=
 some (m2,m3,m4,(if 65537<(wrap .i64 (m5*d1)) then 65537 else(wrap .i64 (m5*d1))),m6,m7,m8)
def o7 (fu:Nat) (in1:List Int) (dims2:List Int):Int×(List Int)×(List Int)×(List Int)×Int×Int×Int×Int×(List Int)→Option ((Int×(List Int)×(List Int)×(List Int)×Int×Int×Int×Int×(List Int))⊕((List Int)×(List Int)×(List Int)×Int×Int×Int×Int×(List Int))):=fun (v10,m11,m12,m13,m14,m15,m16,m17,m18)=>
 cond (decide (v10<(dims2.length:Int)))
  ((idx dims2 v10).bind fun x19=>
   (iE fu in1 v10).bind fun r20=>
   (cond (!r20)
     ((bj (m18.length+[v10].length≤maxLen∧(m18.length+[v10].length)*8≤140737488355328)).bind fun _=>
     (bj (m11.length+[x19].length≤maxLen∧(m11.length+[x19].length)*8≤140737488355328)).bind fun _=>
     (tL fu x19 m12 m13 m14 m15 m16 m17 (m11++[x19])).bind fun (r21,r22,r23,r24,r25,r26,r27)=>
     bif Nat.beq (List.length r27) (List.length (m11++[x19])) then
     some (r27,r21,r22,r23,r24,r25,r26,m18++[v10])
     else none)
     (some (m11,m12,m13,m14,m15,m16,m17,m18))).bind fun (m28,m29,m30,m31,m32,m33,m34,m35)=>
   some (.inl (wrap .i64 (v10+1),m28,m29,m30,m31,m32,m33,m34,m35)))
  (some (.inr (m11,m12,m13,m14,m15,m16,m17,m18)))
def sK (fu:Nat) (in1:List Int) (dims2:List Int) (m3:List Int) (m4:List Int) (m5:Int) (m6:Int) (m7:Int) (m8:Int) (m9:List Int):Option ((List Int)×(List Int)×(List Int)×Int×Int×Int×Int×(List Int)):=
 (aP (o7 fu in1 dims2) fu (0,m9,m3,m4,m5,m6,m7,m8,([]:List Int))).bind fun (m36,m37,m38,m39,m40,m41,m42,m43)=>
 some (m43,m37,m38,m39,m40,m41,m42,m36)
def tK (fu:Nat) (d1:Int) (m2:List Int) (m3:List Int) (m4:Int) (m5:Int) (m6:Int) (m7:Int) (m8:List Int):Option ((List Int)×(List Int)×Int×Int×Int×Int×(List Int)):=
 some (m2,m3,m4,m5,(if 65537<(wrap .i64 (m6*d1)) then 65537 else(wrap .i64 (m6*d1))),m7,m8)
def nm (fu:Nat) (in1:List Int) (dims2:List Int):Int×(List Int)×(List Int)×(List Int)×Int×Int×Int×Int×(List Int)→Option ((Int×(List Int)×(List Int)×(List Int)×Int×Int×Int×Int×(List Int))⊕((List Int)×(List Int)×(List Int)×Int×Int×Int×Int×(List Int))):=fun (v10,m11,m12,m13,m14,m15,m16,m17,m18)=>
 cond (decide (v10<(dims2.length:Int)))
  ((idx dims2 v10).bind fun x19=>
   (iE fu in1 v10).bind fun r20=>
   (cond (!r20)
     ((bj (m18.length+[v10].length≤maxLen∧(m18.length+[v10].length)*8≤140737488355328)).bind fun _=>
     (bj (m11.length+[x19].length≤maxLen∧(m11.length+[x19].length)*8≤140737488355328)).bind fun _=>
     (tK fu x19 m12 m13 m14 m15 m16 m17 (m11++[x19])).bind fun (r21,r22,r23,r24,r25,r26,r27)=>
     bif Nat.beq (List.length r27) (List.length (m11++[x19])) then
     some (r27,r21,r22,r23,r24,r25,r26,m18++[v10])
     else none)
     (some (m11,m12,m13,m14,m15,m16,m17,m18))).bind fun (m28,m29,m30,m31,m32,m33,m34,m35)=>
   some (.inl (wrap .i64 (v10+1),m28,m29,m30,m31,m32,m33,m34,m35)))
  (some (.inr (m11,m12,m13,m14,m15,m16,m17,m18)))
def qd (fu:Nat) (in1:List Int) (dims2:List Int) (m3:List Int) (m4:List Int) (m5:Int) (m6:Int) (m7:Int) (m8:Int) (m9:List Int):Option ((List Int)×(List Int)×(List Int)×Int×Int×Int×Int×(List Int)):=
 (aP (nm fu in1 dims2) fu (0,m9,m3,m4,m5,m6,m7,m8,([]:List Int))).bind fun (m36,m37,m38,m39,m40,m41,m42,m43)=>
 some (m43,m37,m38,m39,m40,m41,m42,m36)
def sL (fu:Nat) (d1:Int) (m2:List Int) (m3:List Int) (m4:Int) (m5:Int) (m6:Int) (m7:Int) (m8:List Int):Option ((List Int)×(List Int)×Int×Int×Int×Int×(List Int)):=
 some (m2,m3,m4,m5,m6,(if 65537<(wrap .i64 (m7*d1)) then 65537 else(wrap .i64 (m7*d1))),m8)
def oF (fu:Nat) (a2:List Int) (b3:List Int) (inA6:List Int) (inB7:List Int):Int×(List Int)×(List Int)×(List Int)×Int×Int×Int×Int→Option ((Int×(List Int)×(List Int)×(List Int)×Int×Int×Int×Int)⊕(Ex ((List Int)×(List Int)×(List Int)×Int×Int×Int×Int) (lP×Int))):=fun (v11,m12,m13,m14,m15,m16,m17,m18)=>
 cond (decide (v11<(inA6.length:Int)))
  ((idx inA6 v11).bind fun x19=>
   (idx a2 x19).bind fun x20=>
   (idx inB7 v11).bind fun x21=>
   (idx b3 x21).bind fun x22=>
   cond (x20 !=x22)
    (some (.inr (.ret ((⟨([]:List Int),([]:List Int),([]:List Int),0,0,0,0⟩:lP),6))))
    (some (.inl (wrap .i64 (v11+1),m12,m13,m14,m15,m16,m17,m18))))
  (some (.inr (.bJ (m12,m13,m14,m15,m16,m17,m18))))
def oE (fu:Nat) (op1:cy) (a2:List Int):Int×(List Int)×(List Int)×Int×Int×Int×Int×(List Int)→Option ((Int×(List Int)×(List Int)×Int×Int×Int×Int×(List Int))⊕((List Int)×(List Int)×Int×Int×Int×Int×(List Int))):=fun (v30,m31,m32,m33,m34,m35,m36,m37)=>
 cond (decide (v30<(op1.Lo.length:Int)))
  ((idx op1.Lo v30).bind fun x38=>
   ((idx a2 x38).bind fun x39=>
    ee ((bj (m37.length+[x39].length≤maxLen∧(m37.length+[x39].length)*8≤140737488355328)).bind fun _=>
    some (m37++[x39],m31,m32,m33,m34,m35,m36))).bind fun (m40,m41,m42,m43,m44,m45,m46)=>
   (idx a2 x38).bind fun x47=>
   (tM fu x47 m41 m42 m43 m44 m45 m46 m40).bind fun (r48,r49,r50,r51,r52,r53,r54)=>
   bif Nat.beq (List.length r54) (List.length m40) then
   some (.inl (wrap .i64 (v30+1),r48,r49,r50,r51,r52,r53,r54))
   else none)
  (some (.inr (m31,m32,m33,m34,m35,m36,m37)))
def oD (fu:Nat) (op1:cy) (a2:List Int):Int×(List Int)×(List Int)×Int×Int×Int×Int×(List Int)→Option ((Int×(List Int)×(List Int)×Int×Int×Int×Int×(List Int))⊕((List Int)×(List Int)×Int×Int×Int×Int×(List Int))):=fun (v78,m79,m80,m81,m82,m83,m84,m85)=>
 cond (decide (v78<(op1.At.length:Int)))
  ((idx op1.At v78).bind fun x86=>
   (idx a2 x86).bind fun x87=>
   (sL fu x87 m79 m80 m81 m82 m83 m84 m85).bind fun (r88,r89,r90,r91,r92,r93,r94)=>
   bif Nat.beq (List.length r94) (List.length m85) then
   some (.inl (wrap .i64 (v78+1),r88,r89,r90,r91,r92,r93,r94))
   else none)
  (some (.inr (m79,m80,m81,m82,m83,m84,m85)))
def sM (fu:Nat) (op1:cy) (a2:List Int) (b3:List Int):Option (lP×Int):=
 (cG (ee ((Go.Proofs.YtongekoajbcliaaGreatDoor.F.c7 fu [op1.Lo,op1.At]).bind fun r4=>
  (Go.Proofs.YtongekoajbcliaaGreatDoor.F.c7 fu [op1.Hi,op1.Step]).bind fun r5=>
  some (r4,r5))) ((Go.Proofs.YtongekoajbcliaaGreatDoor.F.c7 fu [op1.Lo,op1.At]).bind fun r4=>
  (Go.Proofs.YtongekoajbcliaaGreatDoor.F.c7 fu [op1.Hi,op1.Step]).bind fun r5=>
  some (r4,r5))).bind fun (inA6,inB7)=>
 (cond ((op1.At.length:Int) !=(op1.Step.length:Int)) (some true) (cond ((op1.Lo.length:Int) !=(op1.Hi.length:Int)) (some true) ((ly fu inA6 (a2.length:Int)).bind fun r8=>
  cond (!r8) (some true) ((ly fu inB7 (b3.length:Int)).bind fun r9=>
  some (!r9))))).bind fun v10=>
 cond v10
  (some ((⟨([]:List Int),([]:List Int),([]:List Int),0,0,0,0⟩:lP),6))
  (bd (fun r=>r) (aP (oF fu a2 b3 inA6 inB7) fu (0,([]:List Int),([]:List Int),([]:List Int),0,0,0,0):Option (Ex ((List Int)×(List Int)×(List Int)×Int×Int×Int×Int) (lP×Int))) fun ((m23,m24,m25,m26,m27,m28,m29):(List Int)×(List Int)×(List Int)×Int×Int×Int×Int)=>
   (aP (oE fu op1 a2) fu (0,([]:List Int),([]:List Int),1,1,1,1,([]:List Int))).bind fun (m55,m56,m57,m58,m59,m60,m61)=>
   (sK fu inA6 a2 m55 m56 m57 m58 m59 m60 m61).bind fun (r62,r63,r64,r65,r66,r67,r68,r69)=>
   (qd fu inB7 b3 r63 r64 r65 r66 r67 r68 r69).bind fun (r70,r71,r72,r73,r74,r75,r76,r77)=>
   (aP (oD fu op1 a2) fu (0,r71,r72,r73,r74,r75,r76,r77)).bind fun (m95,m96,m97,m98,m99,m100,m101)=>
   (cG (ee ((Go.Proofs.YtongekoajbcliaaGreatDoor.F.c7 fu [op1.Lo,r62,op1.At]).bind fun r102=>
    (Go.Proofs.YtongekoajbcliaaGreatDoor.F.c7 fu [op1.Hi,r70,op1.Step]).bind fun r103=>
    some (r102,r103,m97,m98,m99,m100))) ((Go.Proofs.YtongekoajbcliaaGreatDoor.F.c7 fu [op1.Lo,r62,op1.At]).bind fun r102=>
    (Go.Proofs.YtongekoajbcliaaGreatDoor.F.c7 fu [op1.Hi,r70,op1.Step]).bind fun r103=>
    some (r102,r103,m97,m98,m99,m100))).bind fun (m104,m105,m106,m107,m108,m109)=>
   some ((⟨m104,m105,m101,m106,m107,m108,m109⟩:lP),0))
def mK (fu:Nat) (at1:List Int) (m10:List Int) (x11:List Int):Int→Option (Int⊕(Ex Unit ((Int×(List Int))⊕(Ex (List Int) ((List Int)×Int))))):=fun v12=>
 cond (decide (v12<(m10.length:Int)))
  (((idx at1 0).bind fun x13=>
    cond (v12 !=x13) ((idx x11 v12).bind fun x14=>
    (idx m10 v12).bind fun x15=>
    some (x14 !=x15)) (some false)).bind fun v16=>
   cond v16
    (some (.inr (.ret (.inr (.ret (([]:List Int),6))))))
    (some (.inl (wrap .i64 (v12+1)))))
  (some (.inr (.bJ ())))
def o9 (fu:Nat) (at1:List Int) (args2:List (List Int)):Int×(List Int)→Option ((Int×(List Int))⊕(Ex (List Int) ((List Int)×Int))):=fun (v9,m10)=>
 cond (decide (v9<((eG args2 1 (args2.length:Int)).length:Int)))
  ((idx (eG args2 1 (args2.length:Int)) v9).bind fun x11=>
   cond ((x11.length:Int) !=(m10.length:Int))
    (some (.inr (.ret (([]:List Int),6))))
    (bd (fun r=>r) (aP (mK fu at1 m10 x11) fu 0:Option (Ex Unit ((Int×(List Int))⊕(Ex (List Int) ((List Int)×Int))))) fun (_:Unit)=>
    (idx at1 0).bind fun x17=>
    (idx m10 x17).bind fun x18=>
    (idx at1 0).bind fun x19=>
    (idx x11 x19).bind fun x20=>
    (idx m10 x17).bind fun x21=>
    some (.inl (wrap .i64 (v9+1),m10.set x17.toNat (wrap .i64 (x18+x20))))))
  (some (.inr (.bJ m10)))
def sO (fu:Nat) (at1:List Int) (args2:List (List Int)):Option ((List Int)×Int):=
 (cond ((at1.length:Int) !=1) (some true) ((idx at1 0).bind fun x3=>
  cond (decide (x3<0)) (some true) ((idx at1 0).bind fun x4=>
  (idx args2 0).bind fun x5=>
  some (decide (x4≥(x5.length:Int)))))).bind fun v6=>
 cond v6
  (some (([]:List Int),6))
  ((idx args2 0).bind fun x7=>
   (cS fu x7).bind fun r8=>
   (bj ((0:Int)≤1∧1≤(args2.length:Int))).bind fun _=>
   bd (fun r=>r) (aP (o9 fu at1 args2) fu (0,r8):Option (Ex (List Int) ((List Int)×Int))) fun (m22:List Int)=>
   some (m22,0))
def mu (fu:Nat) (s1:List Int):Option (List Int):=
 some s1
def rO (fu:Nat) (v1:Int) (v2:Int) (m3:List Int) (m4:Int) (m5:List Int):Option ((List Int)×Int×(List Int)):=
 (idx m5 v1).bind fun x6=>
 (idx m3 v1).bind fun x7=>
 some (m3,wrap .i64 (m4*x7),m5.set v1.toNat m4)
def kZ (fu:Nat) (m1:List Int):Int×(List Int)×Int×(List Int)→Option ((Int×(List Int)×Int×(List Int))⊕(Ex ((List Int)×Int×(List Int)) ((List Int)×(List Int)×Int×(List Int)))):=fun (i5,m6,m7,m8)=>
 cond (decide (i5≥0))
  ((idx m1 i5).bind fun x9=>
   (rO fu i5 x9 m6 m7 m8).bind fun (r10,r11,r12)=>
   bif Nat.beq (List.length r12) (List.length m8) then
   cond (!true)
    (some (.inr (.ret (m1,r10,r11,r12))))
    (some (.inl (wrap .i64 (i5-1),r10,r11,r12)))
   else none)
  (some (.inr (.bJ (m6,m7,m8))))
def qm (fu:Nat) (m1:List Int) (m2:List Int) (m3:Int) (m4:List Int):Option ((List Int)×(List Int)×Int×(List Int)):=
 bd (fun r=>r) (aP (kZ fu m1) fu (wrap .i64 ((m1.length:Int)-1),m2,m3,m4):Option (Ex ((List Int)×Int×(List Int)) ((List Int)×(List Int)×Int×(List Int)))) fun ((m13,m14,m15):(List Int)×Int×(List Int))=>
 some (m1,m13,m14,m15)
def qJ (fu:Nat) (dims1:List Int):Option (List Int):=
 (bj ((0:Int)≤(dims1.length:Int)∧(dims1.length:Int)≤(dims1.length:Int)∧((8:Nat):Int)*(dims1.length:Int)≤281474976710656∧(dims1.length:Int)≤9223372036854775807)).bind fun _=>
 (iE fu dims1 0).bind fun r2=>
 cond r2
  (some (List.replicate (toNat (dims1.length:Int)) (0:Int)))
  ((mu fu dims1).bind fun r3=>
   (qm fu r3 dims1 1 (List.replicate (toNat (dims1.length:Int)) (0:Int))).bind fun (r4,r5,r6,r7)=>
   bif Nat.beq (List.length r7) (List.length (List.replicate (toNat (dims1.length:Int)) (0:Int))) then
   some r7
   else none)
def u6 (fu:Nat) (dims1:List Int):Option (aK×Int):=
 (jF fu dims1).bind fun (r2,r3)=>
 cond (r3 !=0)
  (some ((⟨0,([]:List Int),([]:List Int)⟩:aK),r3))
  ((cS fu dims1).bind fun r4=>
   (qJ fu dims1).bind fun r5=>
   some ((⟨0,r4,r5⟩:aK),0))
def ub (fu:Nat) (n1:Int):Option Bool:=
 (cond (decide (n1≥(-1099511627776))) (some (decide (n1≤1099511627776))) (some false)).bind fun v2=>
 some v2
def rP (fu:Nat) (s1:Int):Option Bool:=
 (ub fu s1).bind fun r2=>
 some (!r2)
def rp (fu:Nat) (s1:List Int):Int→Option (Int⊕(Ex Unit Int)):=fun v2=>
 cond (decide (v2<(s1.length:Int)))
  ((idx s1 v2).bind fun x3=>
   (rP fu x3).bind fun r4=>
   cond r4
    (some (.inr (.ret v2)))
    (some (.inl (wrap .i64 (v2+1)))))
  (some (.inr (.bJ ())))
def pp (fu:Nat) (s1:List Int):Option Int:=
 bd (fun r=>r) (aP (rp fu s1) fu 0:Option (Ex Unit Int)) fun (_:Unit)=>
 some (-1)
def kw (fu:Nat) (s1:List Int):Option Bool:=
 (pp fu s1).bind fun r2=>
 some (decide (r2≥0))
def kW (fu:Nat) (v1:aK):Option Int:=
 (jF fu v1.au).bind fun (r2,r3)=>
 cond (r3 !=0)
  (some r3)
  (cond ((v1.Steps.length:Int) !=(v1.au.length:Int))
    (some 6)
    (((ub fu v1.Start).bind fun r4=>
     cond (!r4) (some true) ((kw fu v1.Steps).bind fun r5=>
     some r5)).bind fun v6=>
    cond v6
     (some 4)
     (some 0)))
def pX (fu:Nat) (at1:List Int) (rank2:Int):Int×Int→Option ((Int×Int)⊕(Ex Unit Bool)):=fun (last3,v4)=>
 cond (decide (v4<(at1.length:Int)))
  ((idx at1 v4).bind fun x5=>
   (cond (decide (x5≤last3)) (some true) (some (decide (x5≥rank2)))).bind fun v6=>
   cond v6
    (some (.inr (.ret false)))
    (some (.inl (x5,wrap .i64 (v4+1)))))
  (some (.inr (.bJ ())))
def qv (fu:Nat) (at1:List Int) (rank2:Int):Option Bool:=
 bd (fun r=>r) (aP (pX fu at1 rank2) fu ((-1),0):Option (Ex Unit Bool)) fun (_:Unit)=>
 some true
def pZ (fu:Nat) (v1:aK) (dims2:List Int) (at3:List Int):Int×Int×(List Int)×(List Int)×(List Int)×Int→Option ((Int×Int×(List Int)×(List Int)×(List Int)×Int)⊕(Ex (Int×(List Int)×(List Int)×(List Int)×Int) (aK×Int))):=fun (v13,m14,m15,m16,m17,m18)=>
 cond (decide (v13<(at3.length:Int)))
  ((idx at3 v13).bind fun x19=>
   (idx dims2 x19).bind fun x20=>
   (idx v1.au v13).bind fun x21=>
   cond (x20 !=x21)
    (some (.inr (.ret ((⟨0,([]:List Int),([]:List Int)⟩:aK),6))))
    ((idx v1.Steps v13).bind fun x22=>
    (idx m17 x19).bind fun x23=>
    some (.inl (wrap .i64 (v13+1),m14,m15,m16,m17.set x19.toNat x22,m18))))
  (some (.inr (.bJ (m14,m15,m16,m17,m18))))
def tQ (fu:Nat) (v1:aK) (dims2:List Int) (at3:List Int):Option (aK×Int):=
 (kW fu v1).bind fun r4=>
 cond (r4 !=0)
  (some ((⟨0,([]:List Int),([]:List Int)⟩:aK),r4))
  ((jF fu dims2).bind fun (r5,r6)=>
   cond (r6 !=0)
    (some ((⟨0,([]:List Int),([]:List Int)⟩:aK),r6))
    ((cond ((at3.length:Int) !=(v1.au.length:Int)) (some true) ((qv fu at3 (dims2.length:Int)).bind fun r7=>
     some (!r7))).bind fun v8=>
    cond v8
     (some ((⟨0,([]:List Int),([]:List Int)⟩:aK),6))
     ((cG ((cS fu dims2).bind fun r9=>
       ee ((bj ((0:Int)≤(dims2.length:Int)∧(dims2.length:Int)≤(dims2.length:Int)∧((8:Nat):Int)*(dims2.length:Int)≤281474976710656∧(dims2.length:Int)≤9223372036854775807)).bind fun _=>
       some (v1.Start,r9,List.replicate (toNat (dims2.length:Int)) (0:Int)))) (cG ((bj ((0:Int)≤(dims2.length:Int)∧(dims2.length:Int)≤(dims2.length:Int)∧((8:Nat):Int)*(dims2.length:Int)≤281474976710656∧(dims2.length:Int)≤9223372036854775807)).bind fun _=>
       ee ((cS fu dims2).bind fun r9=>
       some (v1.Start,r9,List.replicate (toNat (dims2.length:Int)) (0:Int)))) (cG ((cS fu dims2).bind fun r9=>
       (bj ((0:Int)≤(dims2.length:Int)∧(dims2.length:Int)≤(dims2.length:Int)∧((8:Nat):Int)*(dims2.length:Int)≤281474976710656∧(dims2.length:Int)≤9223372036854775807)).bind fun _=>
       some (v1.Start,r9,List.replicate (toNat (dims2.length:Int)) (0:Int))) ((bj ((0:Int)≤(dims2.length:Int)∧(dims2.length:Int)≤(dims2.length:Int)∧((8:Nat):Int)*(dims2.length:Int)≤281474976710656∧(dims2.length:Int)≤9223372036854775807)).bind fun _=>
       (cS fu dims2).bind fun r9=>
       some (v1.Start,r9,List.replicate (toNat (dims2.length:Int)) (0:Int)))))).bind fun (m10,m11,m12)=>
      bd (fun r=>r) (aP (pZ fu v1 dims2 at3) fu (0,0,([]:List Int),([]:List Int),m12,m10):Option (Ex (Int×(List Int)×(List Int)×(List Int)×Int) (aK×Int))) fun ((m24,m25,m26,m27,m28):Int×(List Int)×(List Int)×(List Int)×Int)=>
      some ((⟨m28,m11,m27⟩:aK),0))))
def rQ (fu:Nat) (v1:aK) (perm2:List Int):Int×Int×(List Int)×(List Int)×(List Bool)×Int×(List Int)×(List Int)→Option ((Int×Int×(List Int)×(List Int)×(List Bool)×Int×(List Int)×(List Int))⊕(Ex (Int×(List Int)×(List Int)×(List Bool)×Int×(List Int)×(List Int)) (aK×Int))):=fun (v4,m5,m6,m7,m8,m9,m10,m11)=>
 cond (decide (v4<(perm2.length:Int)))
  ((idx perm2 v4).bind fun x12=>
   (cond (decide (x12<0)) (some true) (cond (decide (x12≥(m8.length:Int))) (some true) ((idx m8 x12).bind fun x13=>
    some x13))).bind fun v14=>
   cond v14
    (some (.inr (.ret ((⟨0,([]:List Int),([]:List Int)⟩:aK),6))))
    ((idx m8 x12).bind fun x15=>
    ((idx v1.au x12).bind fun x16=>
     (idx v1.Steps x12).bind fun x17=>
     cG (cG (cG ((bj (m10.length+[x16].length≤maxLen∧(m10.length+[x16].length)*8≤140737488355328)).bind fun _=>
     ee ((bj (m11.length+[x17].length≤maxLen∧(m11.length+[x17].length)*8≤140737488355328)).bind fun _=>
     some (m10++[x16],m11++[x17],m9))) (cG (ee ((bj (m10.length+[x16].length≤maxLen∧(m10.length+[x16].length)*8≤140737488355328)).bind fun _=>
     (bj (m11.length+[x17].length≤maxLen∧(m11.length+[x17].length)*8≤140737488355328)).bind fun _=>
     some (m10++[x16],m11++[x17],m9))) (ee ((bj (m10.length+[x16].length≤maxLen∧(m10.length+[x16].length)*8≤140737488355328)).bind fun _=>
     (bj (m11.length+[x17].length≤maxLen∧(m11.length+[x17].length)*8≤140737488355328)).bind fun _=>
     some (m10++[x16],m11++[x17],m9))))) (cG (cG (ee ((bj (m10.length+[x16].length≤maxLen∧(m10.length+[x16].length)*8≤140737488355328)).bind fun _=>
     (bj (m11.length+[x17].length≤maxLen∧(m11.length+[x17].length)*8≤140737488355328)).bind fun _=>
     some (m10++[x16],m11++[x17],m9))) ((bj (m10.length+[x16].length≤maxLen∧(m10.length+[x16].length)*8≤140737488355328)).bind fun _=>
     (bj (m11.length+[x17].length≤maxLen∧(m11.length+[x17].length)*8≤140737488355328)).bind fun _=>
     some (m10++[x16],m11++[x17],m9))) (cG (ee ((bj (m10.length+[x16].length≤maxLen∧(m10.length+[x16].length)*8≤140737488355328)).bind fun _=>
     (bj (m11.length+[x17].length≤maxLen∧(m11.length+[x17].length)*8≤140737488355328)).bind fun _=>
     some (m10++[x16],m11++[x17],m9))) ((bj (m10.length+[x16].length≤maxLen∧(m10.length+[x16].length)*8≤140737488355328)).bind fun _=>
     (bj (m11.length+[x17].length≤maxLen∧(m11.length+[x17].length)*8≤140737488355328)).bind fun _=>
     some (m10++[x16],m11++[x17],m9))))) (cG (cG (cG ((bj (m10.length+[x16].length≤maxLen∧(m10.length+[x16].length)*8≤140737488355328)).bind fun _=>
     ee ((bj (m11.length+[x17].length≤maxLen∧(m11.length+[x17].length)*8≤140737488355328)).bind fun _=>
     some (m10++[x16],m11++[x17],m9))) (cG (ee ((bj (m10.length+[x16].length≤maxLen∧(m10.length+[x16].length)*8≤140737488355328)).bind fun _=>
     (bj (m11.length+[x17].length≤maxLen∧(m11.length+[x17].length)*8≤140737488355328)).bind fun _=>
     some (m10++[x16],m11++[x17],m9))) (ee ((bj (m10.length+[x16].length≤maxLen∧(m10.length+[x16].length)*8≤140737488355328)).bind fun _=>
     (bj (m11.length+[x17].length≤maxLen∧(m11.length+[x17].length)*8≤140737488355328)).bind fun _=>
     some (m10++[x16],m11++[x17],m9))))) (cG (cG (ee ((bj (m10.length+[x16].length≤maxLen∧(m10.length+[x16].length)*8≤140737488355328)).bind fun _=>
     (bj (m11.length+[x17].length≤maxLen∧(m11.length+[x17].length)*8≤140737488355328)).bind fun _=>
     some (m10++[x16],m11++[x17],m9))) ((bj (m10.length+[x16].length≤maxLen∧(m10.length+[x16].length)*8≤140737488355328)).bind fun _=>
     (bj (m11.length+[x17].length≤maxLen∧(m11.length+[x17].length)*8≤140737488355328)).bind fun _=>
     some (m10++[x16],m11++[x17],m9))) (cG (ee ((bj (m10.length+[x16].length≤maxLen∧(m10.length+[x16].length)*8≤140737488355328)).bind fun _=>
     (bj (m11.length+[x17].length≤maxLen∧(m11.length+[x17].length)*8≤140737488355328)).bind fun _=>
     some (m10++[x16],m11++[x17],m9))) ((bj (m10.length+[x16].length≤maxLen∧(m10.length+[x16].length)*8≤140737488355328)).bind fun _=>
     (bj (m11.length+[x17].length≤maxLen∧(m11.length+[x17].length)*8≤140737488355328)).bind fun _=>
     some (m10++[x16],m11++[x17],m9))))) (cG (cG (cG (ee ((bj (m10.length+[x16].length≤maxLen∧(m10.length+[x16].length)*8≤140737488355328)).bind fun _=>
     (bj (m11.length+[x17].length≤maxLen∧(m11.length+[x17].length)*8≤140737488355328)).bind fun _=>
     some (m10++[x16],m11++[x17],m9))) ((bj (m10.length+[x16].length≤maxLen∧(m10.length+[x16].length)*8≤140737488355328)).bind fun _=>
     (bj (m11.length+[x17].length≤maxLen∧(m11.length+[x17].length)*8≤140737488355328)).bind fun _=>
     some (m10++[x16],m11++[x17],m9))) (cG (cG (ee ((bj (m10.length+[x16].length≤maxLen∧(m10.length+[x16].length)*8≤140737488355328)).bind fun _=>
     (bj (m11.length+[x17].length≤maxLen∧(m11.length+[x17].length)*8≤140737488355328)).bind fun _=>
     some (m10++[x16],m11++[x17],m9))) ((bj (m10.length+[x16].length≤maxLen∧(m10.length+[x16].length)*8≤140737488355328)).bind fun _=>
     (bj (m11.length+[x17].length≤maxLen∧(m11.length+[x17].length)*8≤140737488355328)).bind fun _=>
     some (m10++[x16],m11++[x17],m9))) (ee ((bj (m10.length+[x16].length≤maxLen∧(m10.length+[x16].length)*8≤140737488355328)).bind fun _=>
     (bj (m11.length+[x17].length≤maxLen∧(m11.length+[x17].length)*8≤140737488355328)).bind fun _=>
     some (m10++[x16],m11++[x17],m9))))) (cG (cG (ee ((bj (m10.length+[x16].length≤maxLen∧(m10.length+[x16].length)*8≤140737488355328)).bind fun _=>
     (bj (m11.length+[x17].length≤maxLen∧(m11.length+[x17].length)*8≤140737488355328)).bind fun _=>
     some (m10++[x16],m11++[x17],m9))) ((bj (m10.length+[x16].length≤maxLen∧(m10.length+[x16].length)*8≤140737488355328)).bind fun _=>
     (bj (m11.length+[x17].length≤maxLen∧(m11.length+[x17].length)*8≤140737488355328)).bind fun _=>
     some (m10++[x16],m11++[x17],m9))) (cG (cG (ee ((bj (m10.length+[x16].length≤maxLen∧(m10.length+[x16].length)*8≤140737488355328)).bind fun _=>
     (bj (m11.length+[x17].length≤maxLen∧(m11.length+[x17].length)*8≤140737488355328)).bind fun _=>
     some (m10++[x16],m11++[x17],m9))) ((bj (m10.length+[x16].length≤maxLen∧(m10.length+[x16].length)*8≤140737488355328)).bind fun _=>
     (bj (m11.length+[x17].length≤maxLen∧(m11.length+[x17].length)*8≤140737488355328)).bind fun _=>
     some (m10++[x16],m11++[x17],m9))) (ee ((bj (m10.length+[x16].length≤maxLen∧(m10.length+[x16].length)*8≤140737488355328)).bind fun _=>
     (bj (m11.length+[x17].length≤maxLen∧(m11.length+[x17].length)*8≤140737488355328)).bind fun _=>
     some (m10++[x16],m11++[x17],m9)))))))).bind fun (m18,m19,m20)=>
    some (.inl (wrap .i64 (v4+1),m5,m6,m7,m8.set x12.toNat true,m20,m18,m19))))
  (some (.inr (.bJ (m5,m6,m7,m8,m9,m10,m11))))
def w6 (fu:Nat) (v1:aK) (perm2:List Int):Option (aK×Int):=
 (kW fu v1).bind fun r3=>
 cond (r3 !=0)
  (some ((⟨0,([]:List Int),([]:List Int)⟩:aK),r3))
  ((bj ((0:Int)≤(v1.au.length:Int)∧(v1.au.length:Int)≤(v1.au.length:Int)∧((1:Nat):Int)*(v1.au.length:Int)≤281474976710656∧(v1.au.length:Int)≤9223372036854775807)).bind fun _=>
   bd (fun r=>r) (aP (rQ fu v1 perm2) fu (0,0,([]:List Int),([]:List Int),List.replicate (toNat (v1.au.length:Int)) (false:Bool),v1.Start,([]:List Int),([]:List Int)):Option (Ex (Int×(List Int)×(List Int)×(List Bool)×Int×(List Int)×(List Int)) (aK×Int))) fun ((m21,m22,m23,m24,m25,m26,m27):Int×(List Int)×(List Int)×(List Bool)×Int×(List Int)×(List Int))=>
   cond ((perm2.length:Int) !=(m24.length:Int))
    (some ((⟨0,([]:List Int),([]:List Int)⟩:aK),6))
    (some ((⟨m25,m26,m27⟩:aK),0)))
def pY (fu:Nat) (v1:aK):Int×(List eO)→Option ((Int×(List eO))⊕(List eO)):=fun (v2,m3)=>
 cond (decide (v2<(v1.au.length:Int)))
  (((idx v1.au v2).bind fun x4=>
    cond (x4==1)
     (some m3)
     ((cond (decide ((m3.length:Int)>0)) ((idx m3 (wrap .i64 ((m3.length:Int)-1))).bind fun x5=>
      (m3[(wrap .i64 ((m3.length:Int)-1)).toNat]?).bind fun x6=>
      (idx v1.Steps v2).bind fun x7=>
      some (x6.step==(wrap .i64 (x4*x7)))) (some false)).bind fun v8=>
     (cond v8
       ((idx m3 (wrap .i64 ((m3.length:Int)-1))).bind fun x9=>
        (idx v1.Steps v2).bind fun x10=>
        (m3[(wrap .i64 ((m3.length:Int)-1)).toNat]?).bind fun x11=>
        (idx m3 (wrap .i64 ((m3.length:Int)-1))).bind fun x12=>
        some (m3.set ((wrap .i64 ((m3.length:Int)-1)).toNat) (⟨wrap .i64 (x11.size*x4),x10⟩:eO)))
       ((idx v1.Steps v2).bind fun x13=>
        (bj (m3.length+[(⟨x4,x13⟩:eO)].length≤maxLen∧(m3.length+[(⟨x4,x13⟩:eO)].length)*16≤140737488355328)).bind fun _=>
        some (m3++[(⟨x4,x13⟩:eO)]))).bind fun m14=>
     some m14)).bind fun m15=>
   some (.inl (wrap .i64 (v2+1),m15)))
  (some (.inr m3))
def tP (fu:Nat) (v1:aK):Option (List eO):=
 (aP (pY fu v1) fu (0,([]:List eO))).bind fun m16=>
 some m16
def uK (fu:Nat) (v1:Int) (v2:Int) (m3:Int) (m4:List Int) (m5:List Int) (m6:Int) (m7:Int) (m8:List Int) (m9:List Int) (m10:List eO):Option (Int×Int×(List Int)×(List Int)×Int×Int×(List Int)×(List Int)×(List eO)):=
 bd (fun r=>r) (cond (v2==1)
   (some (.bJ (m9,m10,m3,m4,m5,m6,m7)))
   ((idx m10 (wrap .i64 ((m10.length:Int)-1))).bind fun x11=>
    (m10[(wrap .i64 ((m10.length:Int)-1)).toNat]?).bind fun x12=>
    (bj (v2≠0)).bind fun _=>
    cond ((Int.tmod x12.size v2) !=0)
     (some (.ret (2,0,([]:List Int),([]:List Int),9,m7,m8,m9,m10)))
     ((m10[(wrap .i64 ((m10.length:Int)-1)).toNat]?).bind fun x13=>
     (idx m9 v1).bind fun x14=>
     (cG ((m10[(wrap .i64 ((m10.length:Int)-1)).toNat]?).bind fun x15=>
      (bj (v2≠0)).bind fun _=>
      (m10[(wrap .i64 ((m10.length:Int)-1)).toNat]?).bind fun x16=>
      (m10[(wrap .i64 ((m10.length:Int)-1)).toNat]?).bind fun x17=>
      some (m10.set ((wrap .i64 ((m10.length:Int)-1)).toNat) (⟨wrap .i64 (Int.tdiv x15.size v2),wrap .i64 (x16.step*v2)⟩:eO))) ((m10[(wrap .i64 ((m10.length:Int)-1)).toNat]?).bind fun x15=>
      (m10[(wrap .i64 ((m10.length:Int)-1)).toNat]?).bind fun x16=>
      (bj (v2≠0)).bind fun _=>
      (m10[(wrap .i64 ((m10.length:Int)-1)).toNat]?).bind fun x17=>
      some (m10.set ((wrap .i64 ((m10.length:Int)-1)).toNat) (⟨wrap .i64 (Int.tdiv x16.size v2),wrap .i64 (x15.step*v2)⟩:eO)))).bind fun m18=>
     (m18[(wrap .i64 ((m10.length:Int)-1)).toNat]?).bind fun x19=>
     (cond (x19.size==1)
       ((bj ((0:Int)≤(wrap .i64 ((m18.length:Int)-1))∧(wrap .i64 ((m18.length:Int)-1))≤((m18.length:Nat):Int))).bind fun _=>
        (bj ((toNat (wrap .i64 ((m18.length:Int)-1)))≤m18.length)).bind fun _=>
        some (List.take (toNat (wrap .i64 ((m18.length:Int)-1))) m18))
       (some m18)).bind fun m20=>
     some (.bJ (m9.set v1.toNat x13.step,m20,m3,m4,m5,m6,m7)))):Option (Ex ((List Int)×(List eO)×Int×(List Int)×(List Int)×Int×Int) (Int×Int×(List Int)×(List Int)×Int×Int×(List Int)×(List Int)×(List eO)))) fun ((m21,m22,m23,m24,m25,m26,m27):(List Int)×(List eO)×Int×(List Int)×(List Int)×Int×Int)=>
 some (0,m23,m24,m25,m26,m27,m8,m21,m22)
def j0 (fu:Nat) (m2:List Int):Int×Int×Int×(List Int)×(List Int)×Int×Int×(List Int)×(List Int)×(List eO)→Option ((Int×Int×Int×(List Int)×(List Int)×Int×Int×(List Int)×(List Int)×(List eO))⊕(Ex (Int×Int×(List Int)×(List Int)×Int×Int×(List Int)×(List Int)×(List eO)) (Int×(List Int)×Int×(List Int)×(List Int)×Int×Int×(List Int)×(List Int)×(List eO)))):=fun (i11,m12,m13,m14,m15,m16,m17,m18,m19,m20)=>
 cond (decide (i11≥0))
  ((idx m2 i11).bind fun x21=>
   (bj (m12=0)).bind fun _=>
   (uK fu i11 x21 m13 m14 m15 m16 m17 m18 m19 m20).bind fun (r22,r23,r24,r25,r26,r27,r28,r29,r30)=>
   bif Nat.beq (List.length r28) (List.length m18) then
   bif Nat.beq (List.length r29) (List.length m19) then
   cond (r22==0)
    (cond (!true)
     (some (.inr (.ret (0,m2,r23,r24,r25,r26,r27,r28,r29,r30))))
     (some (.inl (wrap .i64 (i11-1),0,r23,r24,r25,r26,r27,r28,r29,r30))))
    (cond (!false)
     (some (.inr (.ret (r22,m2,r23,r24,r25,r26,r27,r28,r29,r30))))
     (some (.inl (wrap .i64 (i11-1),r22,r23,r24,r25,r26,r27,r28,r29,r30))))
   else none
   else none)
  (some (.inr (.bJ (m12,m13,m14,m15,m16,m17,m18,m19,m20))))
def lU (fu:Nat) (m1:Int) (m2:List Int) (m3:Int) (m4:List Int) (m5:List Int) (m6:Int) (m7:Int) (m8:List Int) (m9:List Int) (m10:List eO):Option (Int×(List Int)×Int×(List Int)×(List Int)×Int×Int×(List Int)×(List Int)×(List eO)):=
 bd (fun r=>r) (aP (j0 fu m2) fu (wrap .i64 ((m2.length:Int)-1),m1,m3,m4,m5,m6,m7,m8,m9,m10):Option (Ex (Int×Int×(List Int)×(List Int)×Int×Int×(List Int)×(List Int)×(List eO)) (Int×(List Int)×Int×(List Int)×(List Int)×Int×Int×(List Int)×(List Int)×(List eO)))) fun ((m31,m32,m33,m34,m35,m36,m37,m38,m39):Int×Int×(List Int)×(List Int)×Int×Int×(List Int)×(List Int)×(List eO))=>
 some (m31,m2,m32,m33,m34,m35,m36,m37,m38,m39)
def pj (fu:Nat) (v1:aK):Option (aK×Int):=
 (kW fu v1).bind fun r2=>
 cond (r2==4)
  (some ((⟨0,([]:List Int),([]:List Int)⟩:aK),5))
  (some (v1,0))
def tR (fu:Nat) (v1:aK) (dims2:List Int):Option (aK×Int):=
 (kW fu v1).bind fun r3=>
 cond (r3 !=0)
  (some ((⟨0,([]:List Int),([]:List Int)⟩:aK),r3))
  ((jF fu dims2).bind fun (r4,r5)=>
   cond (r5 !=0)
    (some ((⟨0,([]:List Int),([]:List Int)⟩:aK),r5))
    ((jF fu v1.au).bind fun (r6,r7)=>
    cond (r6 !=r4)
     (some ((⟨0,([]:List Int),([]:List Int)⟩:aK),6))
     ((cG ((cS fu dims2).bind fun r8=>
       ee ((bj ((0:Int)≤(dims2.length:Int)∧(dims2.length:Int)≤(dims2.length:Int)∧((8:Nat):Int)*(dims2.length:Int)≤281474976710656∧(dims2.length:Int)≤9223372036854775807)).bind fun _=>
       some (v1.Start,r8,List.replicate (toNat (dims2.length:Int)) (0:Int)))) (cG ((bj ((0:Int)≤(dims2.length:Int)∧(dims2.length:Int)≤(dims2.length:Int)∧((8:Nat):Int)*(dims2.length:Int)≤281474976710656∧(dims2.length:Int)≤9223372036854775807)).bind fun _=>
       ee ((cS fu dims2).bind fun r8=>
       some (v1.Start,r8,List.replicate (toNat (dims2.length:Int)) (0:Int)))) (cG ((cS fu dims2).bind fun r8=>
       (bj ((0:Int)≤(dims2.length:Int)∧(dims2.length:Int)≤(dims2.length:Int)∧((8:Nat):Int)*(dims2.length:Int)≤281474976710656∧(dims2.length:Int)≤9223372036854775807)).bind fun _=>
       some (v1.Start,r8,List.replicate (toNat (dims2.length:Int)) (0:Int))) ((bj ((0:Int)≤(dims2.length:Int)∧(dims2.length:Int)≤(dims2.length:Int)∧((8:Nat):Int)*(dims2.length:Int)≤281474976710656∧(dims2.length:Int)≤9223372036854775807)).bind fun _=>
       (cS fu dims2).bind fun r8=>
       some (v1.Start,r8,List.replicate (toNat (dims2.length:Int)) (0:Int)))))).bind fun (m9,m10,m11)=>
      cond (r4==0)
       (some ((⟨m9,m10,m11⟩:aK),0))
       ((tP fu v1).bind fun r12=>
       (mu fu dims2).bind fun r13=>
       (lU fu 0 r13 0 ([]:List Int) ([]:List Int) 0 m9 m10 m11 r12).bind fun (r14,r15,r16,r17,r18,r19,r20,r21,r22,r23)=>
       bif Nat.beq (List.length r21) (List.length m10) then
       bif Nat.beq (List.length r22) (List.length m11) then
       cond (r14==0)
        ((pj fu (⟨r20,r21,r22⟩:aK)).bind fun (r24,r25)=>
         some (r24,r25))
        (cond (r14==1)
         ((pj fu (⟨r20,r21,r22⟩:aK)).bind fun (r26,r27)=>
          some (r26,r27))
         (some ((⟨r16,r17,r18⟩:aK),r19)))
       else none
       else none))))
def tS (fu:Nat) (v1:aK) (lo2:List Int) (hi3:List Int) (step4:List Int):Int×Int×(List Int)×(List Int)×Int×(List Int)×(List Int)→Option ((Int×Int×(List Int)×(List Int)×Int×(List Int)×(List Int))⊕(Ex (Int×(List Int)×(List Int)×Int×(List Int)×(List Int)) (aK×Int))):=fun (v7,m8,m9,m10,m11,m12,m13)=>
 cond (decide (v7<(v1.au.length:Int)))
  ((idx v1.au v7).bind fun x14=>
   ((idx lo2 v7).bind fun x15=>
    cond (decide (x15<0)) (some true) ((idx lo2 v7).bind fun x16=>
    (idx hi3 v7).bind fun x17=>
    cond (decide (x16>x17)) (some true) ((idx hi3 v7).bind fun x18=>
    cond (decide (x18>x14)) (some true) ((idx step4 v7).bind fun x19=>
    cond (decide (x19<1)) (some true) ((idx step4 v7).bind fun x20=>
    some (decide (x20>4096))))))).bind fun v21=>
   cond v21
    (some (.inr (.ret ((⟨0,([]:List Int),([]:List Int)⟩:aK),4))))
    ((idx lo2 v7).bind fun x22=>
    (idx v1.Steps v7).bind fun x23=>
    ((idx hi3 v7).bind fun x24=>
     (idx lo2 v7).bind fun x25=>
     (idx step4 v7).bind fun x26=>
     (idx step4 v7).bind fun x27=>
     (bj (x27≠0)).bind fun _=>
     ee ((bj (m12.length+[wrap .i64 (Int.tdiv (wrap .i64 ((wrap .i64 ((wrap .i64 (x24-x25))+x26))-1)) x27)].length≤maxLen∧(m12.length+[wrap .i64 (Int.tdiv (wrap .i64 ((wrap .i64 ((wrap .i64 (x24-x25))+x26))-1)) x27)].length)*8≤140737488355328)).bind fun _=>
     some (m12++[wrap .i64 (Int.tdiv (wrap .i64 ((wrap .i64 ((wrap .i64 (x24-x25))+x26))-1)) x27)],wrap .i64 (m11+(wrap .i64 (x22*x23)))))).bind fun (m28,m29)=>
    ((idx v1.Steps v7).bind fun x30=>
     (idx step4 v7).bind fun x31=>
     ee ((bj (m13.length+[wrap .i64 (x30*x31)].length≤maxLen∧(m13.length+[wrap .i64 (x30*x31)].length)*8≤140737488355328)).bind fun _=>
     some (m13++[wrap .i64 (x30*x31)],m29))).bind fun (m32,m33)=>
    some (.inl (wrap .i64 (v7+1),m8,m9,m10,m33,m28,m32))))
  (some (.inr (.bJ (m8,m9,m10,m11,m12,m13))))
def zp (fu:Nat) (v1:aK) (lo2:List Int) (hi3:List Int) (step4:List Int):Option (aK×Int):=
 (kW fu v1).bind fun r5=>
 cond (r5 !=0)
  (some ((⟨0,([]:List Int),([]:List Int)⟩:aK),r5))
  ((cond ((lo2.length:Int) !=(v1.au.length:Int)) (some true) (cond ((hi3.length:Int) !=(v1.au.length:Int)) (some true) (some ((step4.length:Int) !=(v1.au.length:Int))))).bind fun v6=>
   cond v6
    (some ((⟨0,([]:List Int),([]:List Int)⟩:aK),6))
    (bd (fun r=>r) (aP (tS fu v1 lo2 hi3 step4) fu (0,0,([]:List Int),([]:List Int),v1.Start,([]:List Int),([]:List Int)):Option (Ex (Int×(List Int)×(List Int)×Int×(List Int)×(List Int)) (aK×Int))) fun ((m34,m35,m36,m37,m38,m39):Int×(List Int)×(List Int)×Int×(List Int)×(List Int))=>
    (pj fu (⟨m37,m38,m39⟩:aK)).bind fun (r40,r41)=>
    some (r40,r41)))
def rR (fu:Nat) (at2:List Int) (m8:List Int):Int×Int×(List Int)→Option ((Int×Int×(List Int))⊕(Int×(List Int))):=fun (v10,m11,m12)=>
 cond (decide (v10<(at2.length:Int)))
  ((idx at2 v10).bind fun x13=>
   (cG (cG ((idx m8 x13).bind fun x14=>
    cG ((idx m12 x13).bind fun x15=>
    some (wrap .i64 (m11+(wrap .i64 ((if (wrap .i64 (x14-1))>0 then(wrap .i64 (x14-1)) else 0)*x15))))) ((idx m12 x13).bind fun x15=>
    ee (some (wrap .i64 (m11+(wrap .i64 ((if (wrap .i64 (x14-1))>0 then(wrap .i64 (x14-1)) else 0)*x15))))))) ((idx m12 x13).bind fun x14=>
    cG ((idx m8 x13).bind fun x15=>
    ee (some (wrap .i64 (m11+(wrap .i64 ((if (wrap .i64 (x15-1))>0 then(wrap .i64 (x15-1)) else 0)*x14)))))) ((idx m8 x13).bind fun x15=>
    some (wrap .i64 (m11+(wrap .i64 ((if (wrap .i64 (x15-1))>0 then(wrap .i64 (x15-1)) else 0)*x14))))))) (cG ((idx m8 x13).bind fun x14=>
    cG (cG ((idx m12 x13).bind fun x15=>
    some (wrap .i64 (m11+(wrap .i64 ((if (wrap .i64 (x14-1))>0 then(wrap .i64 (x14-1)) else 0)*x15))))) ((idx m12 x13).bind fun x15=>
    ee (some (wrap .i64 (m11+(wrap .i64 ((if (wrap .i64 (x14-1))>0 then(wrap .i64 (x14-1)) else 0)*x15))))))) (cG (cG ((idx m12 x13).bind fun x15=>
    some (wrap .i64 (m11+(wrap .i64 ((if (wrap .i64 (x14-1))>0 then(wrap .i64 (x14-1)) else 0)*x15))))) ((idx m12 x13).bind fun x15=>
    ee (some (wrap .i64 (m11+(wrap .i64 ((if (wrap .i64 (x14-1))>0 then(wrap .i64 (x14-1)) else 0)*x15))))))) ((idx m12 x13).bind fun x15=>
    Rg (ee (some (wrap .i64 (m11+(wrap .i64 ((if (wrap .i64 (x14-1))>0 then(wrap .i64 (x14-1)) else 0)*x15))))))))) ((idx m12 x13).bind fun x14=>
    cG (cG ((idx m8 x13).bind fun x15=>
    ee (some (wrap .i64 (m11+(wrap .i64 ((if (wrap .i64 (x15-1))>0 then(wrap .i64 (x15-1)) else 0)*x14)))))) ((idx m8 x13).bind fun x15=>
    some (wrap .i64 (m11+(wrap .i64 ((if (wrap .i64 (x15-1))>0 then(wrap .i64 (x15-1)) else 0)*x14)))))) (cG ((idx m8 x13).bind fun x15=>
    Rg (ee (some (wrap .i64 (m11+(wrap .i64 ((if (wrap .i64 (x15-1))>0 then(wrap .i64 (x15-1)) else 0)*x14))))))) (cG ((idx m8 x13).bind fun x15=>
    some (wrap .i64 (m11+(wrap .i64 ((if (wrap .i64 (x15-1))>0 then(wrap .i64 (x15-1)) else 0)*x14))))) ((idx m8 x13).bind fun x15=>
    ee (some (wrap .i64 (m11+(wrap .i64 ((if (wrap .i64 (x15-1))>0 then(wrap .i64 (x15-1)) else 0)*x14))))))))))).bind fun m16=>
   (idx m12 x13).bind fun x17=>
   (idx m12 x13).bind fun x18=>
   some (.inl (wrap .i64 (v10+1),m16,m12.set x13.toNat (wrap .i64 (0-x17)))))
  (some (.inr (m11,m12)))
def w7 (fu:Nat) (v1:aK) (at2:List Int):Option (aK×Int):=
 (kW fu v1).bind fun r3=>
 cond (r3 !=0)
  (some ((⟨0,([]:List Int),([]:List Int)⟩:aK),r3))
  ((qv fu at2 (v1.au.length:Int)).bind fun r4=>
   cond (!r4)
    (some ((⟨0,([]:List Int),([]:List Int)⟩:aK),6))
    ((cG ((cS fu v1.au).bind fun r5=>
     ee ((cS fu v1.Steps).bind fun r6=>
     some (v1.Start,r5,r6))) ((cS fu v1.au).bind fun r5=>
     (cS fu v1.Steps).bind fun r6=>
     some (v1.Start,r5,r6))).bind fun (m7,m8,m9)=>
    (aP (rR fu at2 m8) fu (0,m7,m9)).bind fun (m19,m20)=>
    (pj fu (⟨m19,m8,m20⟩:aK)).bind fun (r21,r22)=>
    some (r21,r22)))
def vC (fu:Nat) (op1:cy) (dims2:List Int):Option (aK×Int):=
 (u6 fu dims2).bind fun (r3,r4)=>
 cond (r4 !=0)
  (some (r3,r4))
  (cond (op1.Kind==9)
    ((tQ fu r3 op1.au op1.At).bind fun (r5,r6)=>
    some (r5,r6))
    (cond (op1.Kind==11)
     ((w6 fu r3 op1.At).bind fun (r7,r8)=>
      some (r7,r8))
     (cond (op1.Kind==12)
       ((tR fu r3 op1.au).bind fun (r9,r10)=>
       some (r9,r10))
       (cond (op1.Kind==13)
        ((zp fu r3 op1.Lo op1.Hi op1.Step).bind fun (r11,r12)=>
         some (r11,r12))
        ((w7 fu r3 op1.At).bind fun (r13,r14)=>
         some (r13,r14))))))
def qT (fu:Nat) (args2:List (List Int)):Int→Option (Int⊕(Ex Unit (Ex ((List Int)×Int) (Ex ((List Int)×Int) ((List Int)×Int))))):=fun v10=>
 cond (decide (v10<((eG args2 1 (args2.length:Int)).length:Int)))
  ((idx (eG args2 1 (args2.length:Int)) v10).bind fun x11=>
   (idx args2 0).bind fun x12=>
   (pq fu x11 x12).bind fun r13=>
   cond (!r13)
    (some (.inr (.ret (.ret (.ret (([]:List Int),6))))))
    (some (.inl (wrap .i64 (v10+1)))))
  (some (.inr (.bJ ())))
def fe (fu:Nat) (op1:cy) (args2:List (List Int)):Option ((List Int)×Int):=
 (gv fu op1 args2).bind fun r3=>
 cond (r3 !=0)
  (some (([]:List Int),r3))
  (bd (fun r=>r) (cond (op1.Kind==2)
     ((cS fu op1.au).bind fun r4=>
     some (.bJ (r4,0)))
     ((cond (op1.Kind==3)
       (some (op1.Kind==3))
       ((cond (op1.Kind==4)
          (some (op1.Kind==4))
          ((cond (op1.Kind==5)
            (some (op1.Kind==5))
            ((cond (op1.Kind==6)
               (some (op1.Kind==6))
               ((cond (op1.Kind==7)
                 (some (op1.Kind==7))
                 (some (op1.Kind==8))).bind fun v5=>
               some v5)).bind fun v6=>
             some v6)).bind fun v7=>
          some v7)).bind fun v8=>
        some v8)).bind fun v9=>
     bd (fun r=>r) (cond v9
       ((bj ((0:Int)≤1∧1≤(args2.length:Int))).bind fun _=>
        bd (fun r=>r) (aP (qT fu args2) fu 0:Option (Ex Unit (Ex ((List Int)×Int) (Ex ((List Int)×Int) ((List Int)×Int))))) fun (_:Unit)=>
        (idx args2 0).bind fun x14=>
        (cS fu x14).bind fun r15=>
        some (.bJ (r15,0)))
       (bd (fun r=>r) (cond (op1.Kind==10)
          ((idx args2 0).bind fun x16=>
          (sI fu op1.At x16).bind fun (r17,r18)=>
          some (.bJ (r17,r18)))
          (bd (fun r=>r) (cond (op1.Kind==14)
            ((idx args2 0).bind fun x19=>
             (sN fu op1 x19).bind fun (r20,r21)=>
             some (.bJ (r20,r21)))
            (bd (fun r=>r) (cond (op1.Kind==16)
               ((idx args2 0).bind fun x22=>
               (idx args2 1).bind fun x23=>
               (sM fu op1 x22 x23).bind fun (r24,r25)=>
               (cond (r25==0)
                 (some r24.dZ)
                 (some ([]:List Int))).bind fun d26=>
               some (.bJ (r25,d26)))
               (bd (fun r=>r) (cond (op1.Kind==17)
                 ((sO fu op1.At args2).bind fun (r27,r28)=>
                  some (.bJ (r27,r28)))
                 (bd (fun r=>r) (cond (op1.Kind==18)
                    ((idx args2 0).bind fun x29=>
                    cond ((x29.length:Int)==0)
                     (some (.ret (.ret (.ret (.ret (.ret (.ret (.ret (([]:List Int),6)))))))))
                     ((idx args2 1).bind fun x30=>
                      (idx args2 0).bind fun x31=>
                      (bj ((0:Int)≤1∧1≤(x31.length:Int))).bind fun _=>
                      (Go.Proofs.YtongekoajbcliaaGreatDoor.F.c7 fu [x30,eG x31 1 (x31.length:Int)]).bind fun r32=>
                      some (.bJ (r32,0))))
                    (bd (fun r=>r) (cond (op1.Kind==19)
                      ((idx args2 1).bind fun x33=>
                       (cond ((op1.au.length:Int) !=1) (some true) ((idx args2 0).bind fun x34=>
                        cond (decide ((x34.length:Int)<(x33.length:Int))) (some true) ((idx args2 0).bind fun x35=>
                        (bj ((0:Int)≤(x33.length:Int)∧(x33.length:Int)≤(x35.length:Int))).bind fun _=>
                        (idx args2 1).bind fun x36=>
                        (pq fu (eG x35 0 (x33.length:Int)) x36).bind fun r37=>
                        some (!r37)))).bind fun v38=>
                       cond v38
                        (some (.ret (.ret (.ret (.ret (.ret (.ret (.ret (.ret (([]:List Int),6))))))))))
                        ((idx args2 0).bind fun x39=>
                        (bj ((0:Int)≤(x33.length:Int)∧(x33.length:Int)≤(x39.length:Int))).bind fun _=>
                        (Go.Proofs.YtongekoajbcliaaGreatDoor.F.c7 fu [op1.au,eG x39 (x33.length:Int) (x39.length:Int)]).bind fun r40=>
                        some (.bJ (r40,0))))
                      ((idx args2 0).bind fun x41=>
                       (vC fu op1 x41).bind fun (r42,r43)=>
                       some (.bJ (r42.au,r43))):Option (Ex ((List Int)×Int) (Ex ((List Int)×Int) (Ex ((List Int)×Int) (Ex (Int×(List Int)) (Ex ((List Int)×Int) (Ex ((List Int)×Int) (Ex ((List Int)×Int) (Ex ((List Int)×Int) ((List Int)×Int)))))))))) fun ((d44,err45):(List Int)×Int)=>
                    some (.bJ (d44,err45))):Option (Ex ((List Int)×Int) (Ex ((List Int)×Int) (Ex (Int×(List Int)) (Ex ((List Int)×Int) (Ex ((List Int)×Int) (Ex ((List Int)×Int) (Ex ((List Int)×Int) ((List Int)×Int))))))))) fun ((d46,err47):(List Int)×Int)=>
                  some (.bJ (d46,err47))):Option (Ex ((List Int)×Int) (Ex (Int×(List Int)) (Ex ((List Int)×Int) (Ex ((List Int)×Int) (Ex ((List Int)×Int) (Ex ((List Int)×Int) ((List Int)×Int)))))))) fun ((d48,err49):(List Int)×Int)=>
               some (.bJ (err49,d48))):Option (Ex (Int×(List Int)) (Ex ((List Int)×Int) (Ex ((List Int)×Int) (Ex ((List Int)×Int) (Ex ((List Int)×Int) ((List Int)×Int))))))) fun ((err50,d51):Int×(List Int))=>
             some (.bJ (d51,err50))):Option (Ex ((List Int)×Int) (Ex ((List Int)×Int) (Ex ((List Int)×Int) (Ex ((List Int)×Int) ((List Int)×Int)))))) fun ((d52,err53):(List Int)×Int)=>
          some (.bJ (d52,err53))):Option (Ex ((List Int)×Int) (Ex ((List Int)×Int) (Ex ((List Int)×Int) ((List Int)×Int))))) fun ((d54,err55):(List Int)×Int)=>
        some (.bJ (d54,err55))):Option (Ex ((List Int)×Int) (Ex ((List Int)×Int) ((List Int)×Int)))) fun ((d56,err57):(List Int)×Int)=>
     some (.bJ (d56,err57))):Option (Ex ((List Int)×Int) ((List Int)×Int))) fun ((d58,err59):(List Int)×Int)=>
   cond (err59 !=0)
    (some (([]:List Int),err59))
    ((jF fu d58).bind fun (r60,r61)=>
    cond (r61 !=0)
     (some (([]:List Int),r61))
     (some (d58,0))))
def tn (fu:Nat) (x1:aq):Option Bool:=
 some (x1.Op.Kind !=1)
def kv (fu:Nat) (s1:List aq):Int→Option (Int⊕(Ex Unit Int)):=fun v2=>
 cond (decide (v2<(s1.length:Int)))
  ((idx s1 v2).bind fun x3=>
   (tn fu x3).bind fun r4=>
   cond r4
    (some (.inr (.ret v2)))
    (some (.inl (wrap .i64 (v2+1)))))
  (some (.inr (.bJ ())))
def po (fu:Nat) (s1:List aq):Option Int:=
 bd (fun r=>r) (aP (kv fu s1) fu 0:Option (Ex Unit Int)) fun (_:Unit)=>
 some (-1)
def pI (fu:Nat) (g1:cL):Option Int:=
 (po fu g1.aJ).bind fun r2=>
 cond (decide (r2<0))
  (some (g1.aJ.length:Int))
  (some r2)
def mF (fu:Nat) (x1:aq) (i2:Int) (m4:List (List Int)):Int×(List (List Int))→Option ((Int×(List (List Int)))⊕(Ex (List (List Int)) ((List Int)×Int×(List (List Int))))):=fun (v5,m6)=>
 cond (decide (v5<(x1.cH.length:Int)))
  ((idx x1.cH v5).bind fun x7=>
   (cond (decide (x7<0)) (some true) (some (decide (x7≥i2)))).bind fun v8=>
   cond v8
    (some (.inr (.ret (([]:List Int),10,m4))))
    ((idx m4 x7).bind fun x9=>
    (bj (m6.length+[x9].length≤maxLen∧(m6.length+[x9].length)*24≤140737488355328)).bind fun _=>
    some (.inl (wrap .i64 (v5+1),m6++[x9]))))
  (some (.inr (.bJ m6)))
def ss (fu:Nat) (x1:aq) (i2:Int) (params3:Int) (m4:List (List Int)):Option ((List Int)×Int×(List (List Int))):=
 bd (fun r=>r) (aP (mF fu x1 i2 m4) fu (0,([]:List (List Int))):Option (Ex (List (List Int)) ((List Int)×Int×(List (List Int))))) fun (m10:List (List Int))=>
 cond (x1.Op.Kind !=1)
  ((fe fu x1.Op m10).bind fun (r11,r12)=>
   some (r11,r12,m4))
  ((cond (decide (i2≥params3)) (some true) (cond ((x1.Op.At.length:Int) !=1) (some true) ((idx x1.Op.At 0).bind fun x13=>
    some (x13 !=i2)))).bind fun v14=>
   cond v14
    (some (([]:List Int),7,m4))
    (cond (decide ((x1.cH.length:Int)>0))
     (some (([]:List Int),2,m4))
     ((jF fu x1.Op.au).bind fun (r15,r16)=>
      (cS fu x1.Op.au).bind fun r17=>
      some (r17,r16,m4))))
def qR (fu:Nat) (g1:cL) (r2:Int):Int×(List (List Int))→Option ((Int×(List (List Int)))⊕(Ex (List (List Int)) (Int×(List (List Int))))):=fun (v3,m4)=>
 cond (decide (v3<(g1.aJ.length:Int)))
  ((idx g1.aJ v3).bind fun x5=>
   (ss fu (⟨(⟨x5.Op.Kind,x5.Op.au,x5.Op.At,x5.Op.Lo,x5.Op.Hi,x5.Op.Step,x5.Op.Value⟩:cy),x5.cH⟩:aq) v3 r2 m4).bind fun (r6,r7,r8)=>
   bif Nat.beq (List.length r8) (List.length m4) then
   cond (r7 !=0)
    (some (.inr (.ret (r7,([]:List (List Int))))))
    ((bj (r8.length+[r6].length≤maxLen∧(r8.length+[r6].length)*24≤140737488355328)).bind fun _=>
    some (.inl (wrap .i64 (v3+1),r8++[r6])))
   else none)
  (some (.inr (.bJ m4)))
def qQ (fu:Nat) (g1:cL):Int→Option (Int⊕(Ex Unit (Int×(List (List Int))))):=fun v10=>
 cond (decide (v10<(g1.lQ.length:Int)))
  ((idx g1.lQ v10).bind fun x11=>
   (cond (decide (x11<0)) (some true) (some (decide (x11≥(g1.aJ.length:Int))))).bind fun v12=>
   cond v12
    (some (.inr (.ret (4,([]:List (List Int))))))
    (some (.inl (wrap .i64 (v10+1)))))
  (some (.inr (.bJ ())))
def vq (fu:Nat) (g1:cL):Option (Int×(List (List Int))):=
 cond (decide ((g1.aJ.length:Int)>4096))
  (some (5,([]:List (List Int))))
  ((bj ((0:Int)≤0∧0≤(g1.aJ.length:Int)∧((24:Nat):Int)*(g1.aJ.length:Int)≤281474976710656∧(g1.aJ.length:Int)≤9223372036854775807)).bind fun _=>
   (pI fu g1).bind fun r2=>
   bd (fun r=>r) (aP (qR fu g1 r2) fu (0,List.replicate (toNat 0) ([]:List Int)):Option (Ex (List (List Int)) (Int×(List (List Int))))) fun (m9:List (List Int))=>
   bd (fun r=>r) (aP (qQ fu g1) fu 0:Option (Ex Unit (Int×(List (List Int))))) fun (_:Unit)=>
   some (0,m9))
def xW (fu:Nat) (g1:cL):Option Int:=
 (vq fu g1).bind fun (r2,r3)=>
 some r2
def qe (fu:Nat) (kind1:Int):Option (kK):=
 cond (kind1==1)
  (some (⟨true,true,false,false,false,false⟩:kK))
  (cond (kind1==2)
    (some (⟨true,false,false,false,false,true⟩:kK))
    (cond (kind1==9)
     (some (⟨true,true,false,false,false,false⟩:kK))
     ((cond (kind1==10)
        (some (kind1==10))
        ((cond (kind1==11)
          (some (kind1==11))
          ((cond (kind1==15)
             (some (kind1==15))
             (some (kind1==17))).bind fun v2=>
           some v2)).bind fun v3=>
        some v3)).bind fun v4=>
      cond v4
       (some (⟨false,true,false,false,false,false⟩:kK))
       ((cond (kind1==12)
         (some (kind1==12))
         (some (kind1==19))).bind fun v5=>
       cond v5
        (some (⟨true,false,false,false,false,false⟩:kK))
        ((cond (kind1==13)
           (some (kind1==13))
           (some (kind1==14))).bind fun v6=>
         cond v6
          (some (⟨false,false,true,true,true,false⟩:kK))
          (cond (kind1==16)
           (some (⟨false,true,true,true,true,false⟩:kK))
           (some (⟨false,false,false,false,false,false⟩:kK))))))))
def cN (fu:Nat) (l1:List Int) (yes2:Bool):Option (List Int):=
 cond (!yes2)
  (some ([]:List Int))
  ((cS fu l1).bind fun r3=>
   some r3)
def qH (fu:Nat) (op1:cy):Option (cy):=
 (qe fu op1.Kind).bind fun r2=>
 (cG ((cN fu op1.au r2.dZ).bind fun r3=>
  cG ((cN fu op1.At r2.at_).bind fun r4=>
  cG ((cN fu op1.Lo r2.lo).bind fun r5=>
  cG ((cN fu op1.Hi r2.hi).bind fun r6=>
  ee ((cN fu op1.Step r2.step).bind fun r7=>
  some (op1.Kind,r3,r4,r5,r6,r7,0))) ((cN fu op1.Hi r2.hi).bind fun r6=>
  (cN fu op1.Step r2.step).bind fun r7=>
  some (op1.Kind,r3,r4,r5,r6,r7,0))) ((cN fu op1.Lo r2.lo).bind fun r5=>
  (cN fu op1.Hi r2.hi).bind fun r6=>
  (cN fu op1.Step r2.step).bind fun r7=>
  some (op1.Kind,r3,r4,r5,r6,r7,0))) ((cN fu op1.At r2.at_).bind fun r4=>
  (cN fu op1.Lo r2.lo).bind fun r5=>
  (cN fu op1.Hi r2.hi).bind fun r6=>
  (cN fu op1.Step r2.step).bind fun r7=>
  some (op1.Kind,r3,r4,r5,r6,r7,0))) ((cN fu op1.au r2.dZ).bind fun r3=>
  (cN fu op1.At r2.at_).bind fun r4=>
  (cN fu op1.Lo r2.lo).bind fun r5=>
  (cN fu op1.Hi r2.hi).bind fun r6=>
  (cN fu op1.Step r2.step).bind fun r7=>
  some (op1.Kind,r3,r4,r5,r6,r7,0)):Option (Int×(List Int)×(List Int)×(List Int)×(List Int)×(List Int)×Int)).bind fun (m8,m9,m10,m11,m12,m13,m14)=>
 (cond r2.value
   (some (m8,m9,m10,m11,m12,m13,op1.Value))
   (some (m8,m9,m10,m11,m12,m13,m14))).bind fun (m15,m16,m17,m18,m19,m20,m21)=>
 some (⟨m15,m16,m17,m18,m19,m20,m21⟩:cy)
def sX (fu:Nat) (i1:Int):Option (ByteArray):=
 (Cg i1 10).bind fun r2=>
 some r2
def strconv_Itoa (fu:Nat) (i1:Int):Option (ByteArray):=
 (sX fu i1).bind fun r2=>
 some r2
def dJ (fu:Nat) (s1:ByteArray) (m2:Bool) (m3:List Int):Option (Int×(List Int)):=
 (KP m2 m3).bind fun r4=>
 bif Nat.beq (List.length r4) (List.length m3) then
 (bj (r4.length+s1.size≤140737488355328)).bind fun _=>
 some ((s1.size:Int),r4++jy s1)
 else none
def eQ (fu:Nat) (c1:Int) (m2:Bool) (m3:List Int):Option (List Int):=
 (KP m2 m3).bind fun r4=>
 bif Nat.beq (List.length r4) (List.length m3) then
 (bj (r4.length+[c1].length≤maxLen∧(r4.length+[c1].length)*1≤140737488355328)).bind fun _=>
 some (r4++[c1])
 else none
def jT (fu:Nat) (l1:List Int):Int×(List Int)→Option ((Int×(List Int))⊕(List Int)):=fun (v7,m8)=>
 cond (decide (v7<(l1.length:Int)))
  ((idx l1 v7).bind fun x9=>
   (eQ fu 32 false m8).bind fun r10=>
   (strconv_Itoa fu x9).bind fun r11=>
   (dJ fu r11 false r10).bind fun (r12,r13)=>
   some (.inl (wrap .i64 (v7+1),r13)))
  (some (.inr m8))
def qF (fu:Nat) (l1:List Int) (m2:Bool) (m3:List Int):Option (List Int):=
 (strconv_Itoa fu (l1.length:Int)).bind fun r4=>
 (dJ fu r4 m2 m3).bind fun (r5,r6)=>
 (aP (jT fu l1) fu (0,r6)).bind fun m14=>
 (eQ fu 59 false m14).bind fun r15=>
 some r15
def EV (fu:Nat) (l1:List Int):Int×(List Int)→Option ((Int×(List Int))⊕(List Int)):=fun (v7,m8)=>
 cond (decide (v7<(l1.length:Int)))
  ((idx l1 v7).bind fun x9=>
   (eQ fu 32 false m8).bind fun r10=>
   (strconv_Itoa fu x9).bind fun r11=>
   (dJ fu r11 false r10).bind fun (r12,r13)=>
   some (.inl (wrap .i64 (v7+1),r13)))
  (some (.inr m8))
def uN (fu:Nat) (l1:List Int) (m2:Bool) (m3:List Int):Option (List Int):=
 (strconv_Itoa fu (l1.length:Int)).bind fun r4=>
 (dJ fu r4 m2 m3).bind fun (r5,r6)=>
 (aP (EV fu l1) fu (0,r6)).bind fun m14=>
 (eQ fu 59 false m14).bind fun r15=>
 some r15
def nc (fu:Nat) (i1:Int) (base2:Int):Option (ByteArray):=
 (Cg i1 base2).bind fun r3=>
 some r3
def lI (fu:Nat) (x1:aq):Int×(List Int)→Option ((Int×(List Int))⊕(List Int)):=fun (v5,m6)=>
 cond (decide (v5<([x1.Op.au,x1.Op.At,x1.Op.Lo,x1.Op.Hi,x1.Op.Step,x1.cH].length:Int)))
  ((idx [x1.Op.au,x1.Op.At,x1.Op.Lo,x1.Op.Hi,x1.Op.Step,x1.cH] v5).bind fun x7=>
   (qF fu x7 false m6).bind fun r8=>
   some (.inl (wrap .i64 (v5+1),r8)))
  (some (.inr m6))
def uu (fu:Nat) (x1:aq):Option (ByteArray):=
 (some (true,([]:List Int))).bind fun (m2,m3)=>
 (uN fu [x1.Op.Kind] m2 m3).bind fun r4=>
 (aP (lI fu x1) fu (0,r4)).bind fun m9=>
 (nc fu x1.Op.Value 10).bind fun r10=>
 (dJ fu r10 false m9).bind fun (r11,r12)=>
 (Ww false r12).bind fun (r13,r14)=>
 some r13
def sZ (fu:Nat) (s1:List Int):Option (List Int):=
 EC (s1.length:Int) (some ([]:List Int)) ((bj (([]:List Int).length+s1.length≤maxLen∧(([]:List Int).length+s1.length)*8≤140737488355328)).bind fun _=>
 some (([]:List Int)++s1))
def ni (fu:Nat) (op1:cy) (args2:List Int) (m3:Bool) (m4:List aq) (m5:List Int) (m6:cR):Option (Int×Bool×(List aq)×(List Int)×cR):=
 (qH fu op1).bind fun r7=>
 (cS fu args2).bind fun r8=>
 (uu fu (⟨(⟨r7.Kind,r7.au,r7.At,r7.Lo,r7.Hi,r7.Step,r7.Value⟩:cy),r8⟩:aq)).bind fun r9=>
 cond (bif m3 then false else(xI m6.Es r9))
  (some ((bif m3 then 0 else(xJ m6.Es r9)),m3,m4,m5,m6))
  ((cond m3
     ((bj (m3=true)).bind fun _=>
     some (false,(⟨[]⟩:cR)))
     (some (m3,m6))).bind fun (m10,m11)=>
   (ee ((bj (m4.length+[(⟨(⟨r7.Kind,r7.au,r7.At,r7.Lo,r7.Hi,r7.Step,r7.Value⟩:cy),r8⟩:aq)].length≤maxLen∧(m4.length+[(⟨(⟨r7.Kind,r7.au,r7.At,r7.Lo,r7.Hi,r7.Step,r7.Value⟩:cy),r8⟩:aq)].length)*160≤140737488355328)).bind fun _=>
    some (m4++[(⟨(⟨r7.Kind,r7.au,r7.At,r7.Lo,r7.Hi,r7.Step,r7.Value⟩:cy),r8⟩:aq)],m10))).bind fun (m12,m13)=>
   (bj (m13=false)).bind fun _=>
   some (wrap .i64 ((m12.length:Int)-1),m13,m12,m5,(⟨xH m11.Es r9 (wrap .i64 ((m12.length:Int)-1))⟩:cR)))
def nh (fu:Nat) (op1:cy) (m2:Bool) (m3:List Int) (m4:List aq) (m5:List Int) (m6:cR):Option (Int×Bool×(List Int)×(List aq)×(List Int)×cR):=
 (qH fu op1).bind fun r7=>
 (sZ fu m3).bind fun r8=>
 (uu fu (⟨(⟨r7.Kind,r7.au,r7.At,r7.Lo,r7.Hi,r7.Step,r7.Value⟩:cy),r8⟩:aq)).bind fun r9=>
 cond (bif m2 then false else(xI m6.Es r9))
  (some ((bif m2 then 0 else(xJ m6.Es r9)),m2,m3,m4,m5,m6))
  ((cond m2
     ((bj (m2=true)).bind fun _=>
     some (false,(⟨[]⟩:cR)))
     (some (m2,m6))).bind fun (m10,m11)=>
   (ee ((bj (m4.length+[(⟨(⟨r7.Kind,r7.au,r7.At,r7.Lo,r7.Hi,r7.Step,r7.Value⟩:cy),r8⟩:aq)].length≤maxLen∧(m4.length+[(⟨(⟨r7.Kind,r7.au,r7.At,r7.Lo,r7.Hi,r7.Step,r7.Value⟩:cy),r8⟩:aq)].length)*160≤140737488355328)).bind fun _=>
    some (m4++[(⟨(⟨r7.Kind,r7.au,r7.At,r7.Lo,r7.Hi,r7.Step,r7.Value⟩:cy),r8⟩:aq)],m10))).bind fun (m12,m13)=>
   (bj (m13=false)).bind fun _=>
   some (wrap .i64 ((m12.length:Int)-1),m13,m3,m12,m5,(⟨xH m11.Es r9 (wrap .i64 ((m12.length:Int)-1))⟩:cR)))
def ng (self:Int→(List aq)→dR→Bool→(List aq)→(List Int)→cR→Option (Int×(List aq)×dR×Bool×(List aq)×(List Int)×cR)) (fu:Nat) (x8:aq):Int×(List aq)×dR×Bool×(List aq)×(List Int)×cR×(List Int)→Option ((Int×(List aq)×dR×Bool×(List aq)×(List Int)×cR×(List Int))⊕((List aq)×dR×Bool×(List aq)×(List Int)×cR×(List Int))):=fun (v9,m10,m11,m12,m13,m14,m15,m16)=>
 cond (decide (v9<(x8.cH.length:Int)))
  ((idx x8.cH v9).bind fun x17=>
   (self x17 m10 m11 m12 m13 m14 m15).bind fun (r18,r19,r20,r21,r22,r23,r24)=>
   bif Nat.beq (List.length r23) (List.length m14) then
   (bj (m16.length+[r18].length≤maxLen∧(m16.length+[r18].length)*8≤140737488355328)).bind fun _=>
   some (.inl (wrap .i64 (v9+1),r19,r20,r21,r22,r23,r24,m16++[r18]))
   else none)
  (some (.inr (m10,m11,m12,m13,m14,m15,m16)))
def rb (self:Int→(List aq)→dR→Bool→(List aq)→(List Int)→cR→Option (Int×(List aq)×dR×Bool×(List aq)×(List Int)×cR)) (fu:Nat) (i1:Int) (m2:List aq) (m3:dR) (m4:Bool) (m5:List aq) (m6:List Int) (m7:cR):Option (Int×(List aq)×dR×Bool×(List aq)×(List Int)×cR):=
 cond (nO m3.Es i1)
  (some ((jk m3.Es i1),m2,m3,m4,m5,m6,m7))
  ((idx m2 i1).bind fun x8=>
   (aP (ng self fu x8) fu (0,m2,m3,m4,m5,m6,m7,([]:List Int))).bind fun (m25,m26,m27,m28,m29,m30,m31)=>
   (idx m25 i1).bind fun x32=>
   (nh fu x32.Op m27 m31 m28 m29 m30).bind fun (r33,r34,r35,r36,r37,r38)=>
   bif Nat.beq (List.length r35) (List.length m31) then
   bif Nat.beq (List.length r37) (List.length m29) then
   some (r33,m25,(⟨xK m26.Es i1 r33⟩:dR),r34,r36,r37,r38)
   else none
   else none)
def fx:Nat→Int→(List aq)→dR→Bool→(List aq)→(List Int)→cR→Option (Int×(List aq)×dR×Bool×(List aq)×(List Int)×cR)
 | 0=>fun _ _ _ _ _ _ _=>none
 | fu+1=>rb (fx fu) (fu+1)
def oz (fu:Nat) (nodes1:List aq) (params2:Int):Int×Bool×dR×(List aq)×(List Int)×cR→Option ((Int×Bool×dR×(List aq)×(List Int)×cR)⊕(Bool×dR×(List aq)×(List Int)×cR)):=fun (v4,m5,m6,m7,m8,m9)=>
 cond (decide (v4<params2))
  ((idx nodes1 v4).bind fun x10=>
   (ni fu x10.Op ([]:List Int) m5 m7 m8 m9).bind fun (r11,r12,r13,r14,r15)=>
   bif Nat.beq (List.length r14) (List.length m8) then
   some (.inl (wrap .i64 (v4+1),r12,(⟨xK m6.Es v4 r11⟩:dR),r13,r14,r15))
   else none)
  (some (.inr (m5,m6,m7,m8,m9)))
def cV (fu:Nat) (m22:List aq) (m23:dR) (m24:Bool) (m25:List aq) (m26:cR) (m27:List Int) (x28:Int):Option ((List aq)×dR×Bool×(List aq)×cR×(List Int)):=
 (fx fu x28 m22 m23 m24 m25 m27 m26).bind fun (r29,r30,r31,r32,r33,r34,r35)=>
 bif Nat.beq (List.length r34) (List.length m27) then
 (bj (r34.length+[r29].length≤maxLen∧(r34.length+[r29].length)*8≤140737488355328)).bind fun _=>
 some (r30,r31,r32,r33,r35,r34++[r29])
 else none
def cU (fu:Nat) (r29:Int) (r30:List aq) (r31:dR) (r32:Bool) (r33:List aq) (r34:List Int) (r35:cR):Option ((List aq)×dR×Bool×(List aq)×cR×(List Int)):=
 (bj (r34.length+[r29].length≤maxLen∧(r34.length+[r29].length)*8≤140737488355328)).bind fun _=>
 some (r30,r31,r32,r33,r35,r34++[r29])
def jG (fu:Nat) (m22:List aq) (m23:dR) (m24:Bool) (m25:List aq) (m26:cR) (m27:List Int) (x28:Int):Option ((List aq)×dR×Bool×(List aq)×cR×(List Int)):=
 (fx fu x28 m22 m23 m24 m25 m27 m26).bind fun (r29,r30,r31,r32,r33,r34,r35)=>
 bif Nat.beq (List.length r34) (List.length m27) then
 ee (cU fu r29 r30 r31 r32 r33 r34 r35)
 else none
def qP (fu:Nat) (m22:List aq) (m23:dR) (m24:Bool) (m25:List aq) (m26:cR) (m27:List Int) (x28:Int):Option ((List aq)×dR×Bool×(List aq)×cR×(List Int)):=
 (fx fu x28 m22 m23 m24 m25 m27 m26).bind fun (r29,r30,r31,r32,r33,r34,r35)=>
 bif Nat.beq (List.length r34) (List.length m27) then
 cG (ee (cU fu r29 r30 r31 r32 r33 r34 r35)) (cU fu r29 r30 r31 r32 r33 r34 r35)
 else none
def oy (fu:Nat) (m22:List aq) (m23:dR) (m24:Bool) (m25:List aq) (m26:cR) (m27:List Int) (x28:Int):Option ((List aq)×dR×Bool×(List aq)×cR×(List Int)):=
 (fx fu x28 m22 m23 m24 m25 m27 m26).bind fun (r29,r30,r31,r32,r33,r34,r35)=>
 bif Nat.beq (List.length r34) (List.length m27) then
 cG (cU fu r29 r30 r31 r32 r33 r34 r35) (ee (cU fu r29 r30 r31 r32 r33 r34 r35))
 else none
def qO (fu:Nat) (m22:List aq) (m23:dR) (m24:Bool) (m25:List aq) (m26:cR) (m27:List Int) (x28:Int):Option ((List aq)×dR×Bool×(List aq)×cR×(List Int)):=
 (fx fu x28 m22 m23 m24 m25 m27 m26).bind fun (r29,r30,r31,r32,r33,r34,r35)=>
 bif Nat.beq (List.length r34) (List.length m27) then
 cG (ee (cU fu r29 r30 r31 r32 r33 r34 r35)) (cG (cG (cU fu r29 r30 r31 r32 r33 r34 r35) (ee (cU fu r29 r30 r31 r32 r33 r34 r35))) (cG (cU fu r29 r30 r31 r32 r33 r34 r35) (ee (cU fu r29 r30 r31 r32 r33 r34 r35))))
 else none
def ox (fu:Nat) (outs3:List Int):Int×(List aq)×dR×Bool×(List aq)×cR×(List Int)→Option ((Int×(List aq)×dR×Bool×(List aq)×cR×(List Int))⊕((List aq)×dR×Bool×(List aq)×cR×(List Int))):=fun (v21,m22,m23,m24,m25,m26,m27)=>
 cond (decide (v21<(outs3.length:Int)))
  ((idx outs3 v21).bind fun x28=>
   (cG (cG (cG (cV fu m22 m23 m24 m25 m26 m27 x28) (cG (cV fu m22 m23 m24 m25 m26 m27 x28) (jG fu m22 m23 m24 m25 m26 m27 x28))) (cG (cG (cV fu m22 m23 m24 m25 m26 m27 x28) (jG fu m22 m23 m24 m25 m26 m27 x28)) (qP fu m22 m23 m24 m25 m26 m27 x28))) (cG (cG (cG (cV fu m22 m23 m24 m25 m26 m27 x28) (cG (cV fu m22 m23 m24 m25 m26 m27 x28) (jG fu m22 m23 m24 m25 m26 m27 x28))) (cG (cG (cV fu m22 m23 m24 m25 m26 m27 x28) (cG (cV fu m22 m23 m24 m25 m26 m27 x28) (oy fu m22 m23 m24 m25 m26 m27 x28))) (cG (cG (cV fu m22 m23 m24 m25 m26 m27 x28) (jG fu m22 m23 m24 m25 m26 m27 x28)) (cG (cG (cV fu m22 m23 m24 m25 m26 m27 x28) (oy fu m22 m23 m24 m25 m26 m27 x28)) (qO fu m22 m23 m24 m25 m26 m27 x28))))) (cG (cG (cG (cV fu m22 m23 m24 m25 m26 m27 x28) (jG fu m22 m23 m24 m25 m26 m27 x28)) (qP fu m22 m23 m24 m25 m26 m27 x28)) (cG (cG (cG (cV fu m22 m23 m24 m25 m26 m27 x28) (jG fu m22 m23 m24 m25 m26 m27 x28)) (cG (cG (cV fu m22 m23 m24 m25 m26 m27 x28) (oy fu m22 m23 m24 m25 m26 m27 x28)) (qO fu m22 m23 m24 m25 m26 m27 x28))) ((fx fu x28 m22 m23 m24 m25 m27 m26).bind fun (r29,r30,r31,r32,r33,r34,r35)=>
    bif Nat.beq (List.length r34) (List.length m27) then
    cG (cG (ee (cU fu r29 r30 r31 r32 r33 r34 r35)) (cU fu r29 r30 r31 r32 r33 r34 r35)) (cG (cG (ee (cU fu r29 r30 r31 r32 r33 r34 r35)) (cG (cG (cU fu r29 r30 r31 r32 r33 r34 r35) (ee (cU fu r29 r30 r31 r32 r33 r34 r35))) (cG (cU fu r29 r30 r31 r32 r33 r34 r35) (ee (cU fu r29 r30 r31 r32 r33 r34 r35))))) (cG (cU fu r29 r30 r31 r32 r33 r34 r35) (cG (cU fu r29 r30 r31 r32 r33 r34 r35) (ee (cU fu r29 r30 r31 r32 r33 r34 r35)))))
    else none))))).bind fun (m36,m37,m38,m39,m40,m41)=>
   some (.inl (wrap .i64 (v21+1),m36,m37,m38,m39,m40,m41)))
  (some (.inr (m22,m23,m24,m25,m26,m27)))
def vo (fu:Nat) (nodes1:List aq) (params2:Int) (outs3:List Int):Option (cL):=
 (aP (oz fu nodes1 params2) fu (0,true,(⟨[]⟩:dR),([]:List aq),([]:List Int),(⟨[]⟩:cR))).bind fun (m16,m17,m18,m19,m20)=>
 (aP (ox fu outs3) fu (0,nodes1,m17,m16,m18,m20,m19)).bind fun (m42,m43,m44,m45,m46,m47)=>
 some (⟨m45,m47⟩:cL)
def Aa (fu:Nat) (g1:cL):Option (cL×Int):=
 (xW fu g1).bind fun r2=>
 cond (r2 !=0)
  (some ((⟨([]:List aq),([]:List Int)⟩:cL),r2))
  ((pI fu g1).bind fun r3=>
   (vo fu g1.aJ r3 g1.lQ).bind fun r4=>
   some (r4,0))
def kF (fu:Nat) (g1:cL):Int→Option (Int⊕(Ex Unit Int)):=fun v2=>
 cond (decide (v2<(g1.aJ.length:Int)))
  ((idx g1.aJ v2).bind fun x3=>
   cond (x3.Op.Kind !=1)
    (some (.inr (.ret v2)))
    (some (.inl (wrap .i64 (v2+1)))))
  (some (.inr (.bJ ())))
def kl (fu:Nat) (g1:cL):Option Int:=
 bd (fun r=>r) (aP (kF fu g1) fu 0:Option (Ex Unit Int)) fun (_:Unit)=>
 some (g1.aJ.length:Int)
def mb (fu:Nat) (dims1:List Int):Bool×Int→Option ((Bool×Int)⊕(Ex Bool (Int×Int))):=fun (none2,v3)=>
 cond (decide (v3<(dims1.length:Int)))
  ((idx dims1 v3).bind fun x4=>
   (cond (decide (x4<0)) (some true) (some (decide (x4>4096)))).bind fun v5=>
   cond v5
    (some (.inr (.ret (0,4))))
    ((cond (x4==0)
      (some true)
      (some none2)).bind fun none6=>
    some (.inl (none6,wrap .i64 (v3+1)))))
  (some (.inr (.bJ none2)))
def ma (fu:Nat) (dims1:List Int):Int×Int→Option ((Int×Int)⊕(Ex Int (Int×Int))):=fun (n8,v9)=>
 cond (decide (v9<(dims1.length:Int)))
  ((idx dims1 v9).bind fun x10=>
   cond (decide ((wrap .i64 (n8*x10))>65536))
    (some (.inr (.ret (0,5))))
    (some (.inl (wrap .i64 (n8*x10),wrap .i64 (v9+1)))))
  (some (.inr (.bJ n8)))
def e9 (fu:Nat) (dims1:List Int):Option (Int×Int):=
 cond (decide ((dims1.length:Int)>6))
  (some (0,3))
  (bd (fun r=>r) (aP (mb fu dims1) fu (false,0):Option (Ex Bool (Int×Int))) fun (none7:Bool)=>
   cond none7
    (some (0,0))
    (bd (fun r=>r) (aP (ma fu dims1) fu (1,0):Option (Ex Int (Int×Int))) fun (n11:Int)=>
    some (n11,0)))
def nq (fu:Nat) (op1:cy) (n2:Int):Option Int:=
 bd (fun r=>r) (cond (op1.Kind==2)
   (cond (n2 !=0)
     (some (.ret 2))
     (some (.bJ ())))
   ((cond (op1.Kind==3)
      (some (op1.Kind==3))
      ((cond (op1.Kind==4)
        (some (op1.Kind==4))
        ((cond (op1.Kind==5)
           (some (op1.Kind==5))
           ((cond (op1.Kind==6)
             (some (op1.Kind==6))
             ((cond (op1.Kind==7)
                (some (op1.Kind==7))
                ((cond (op1.Kind==16)
                  (some (op1.Kind==16))
                  ((cond (op1.Kind==18)
                     (some (op1.Kind==18))
                     (some (op1.Kind==19))).bind fun v3=>
                   some v3)).bind fun v4=>
                some v4)).bind fun v5=>
              some v5)).bind fun v6=>
           some v6)).bind fun v7=>
         some v7)).bind fun v8=>
      some v8)).bind fun v9=>
    bd (fun r=>r) (cond v9
      (cond (n2 !=2)
       (some (.ret (.ret 2)))
       (some (.bJ ())))
      (bd (fun r=>r) (cond (op1.Kind==8)
        (cond (n2 !=3)
          (some (.ret (.ret (.ret 2))))
          (some (.bJ ())))
        ((cond (op1.Kind==9)
           (some (op1.Kind==9))
           ((cond (op1.Kind==10)
             (some (op1.Kind==10))
             ((cond (op1.Kind==11)
                (some (op1.Kind==11))
                ((cond (op1.Kind==12)
                  (some (op1.Kind==12))
                  ((cond (op1.Kind==13)
                     (some (op1.Kind==13))
                     ((cond (op1.Kind==14)
                       (some (op1.Kind==14))
                       (some (op1.Kind==15))).bind fun v10=>
                     some v10)).bind fun v11=>
                   some v11)).bind fun v12=>
                some v12)).bind fun v13=>
              some v13)).bind fun v14=>
           some v14)).bind fun v15=>
         bd (fun r=>r) (cond v15
           (cond (n2 !=1)
            (some (.ret (.ret (.ret (.ret 2)))))
            (some (.bJ ())))
           (cond (op1.Kind==17)
            (cond (n2==0)
              (some (.ret (.ret (.ret (.ret 2)))))
              (some (.bJ ())))
            (some (.ret (.ret (.ret (.ret 1)))))):Option (Ex Unit (Ex Unit (Ex Unit (Ex Unit Int))))) fun (_:Unit)=>
         some (.bJ ())):Option (Ex Unit (Ex Unit (Ex Unit Int)))) fun (_:Unit)=>
      some (.bJ ())):Option (Ex Unit (Ex Unit Int))) fun (_:Unit)=>
    some (.bJ ())):Option (Ex Unit Int)) fun (_:Unit)=>
 some 0
def jL (fu:Nat) (a1:List Int) (b2:List Int):Int→Option (Int⊕(Ex Unit Bool)):=fun v3=>
 cond (decide (v3<(a1.length:Int)))
  ((idx a1 v3).bind fun x4=>
   (idx b2 v3).bind fun x5=>
   cond (x4 !=x5)
    (some (.inr (.ret false)))
    (some (.inl (wrap .i64 (v3+1)))))
  (some (.inr (.bJ ())))
def cE (fu:Nat) (a1:List Int) (b2:List Int):Option Bool:=
 cond ((a1.length:Int) !=(b2.length:Int))
  (some false)
  (bd (fun r=>r) (aP (jL fu a1 b2) fu 0:Option (Ex Unit Bool)) fun (_:Unit)=>
   some true)
def kJ (fu:Nat) (at1:List Int) (rank2:Int):Int→Option (Int⊕(Ex Unit Bool)):=fun v3=>
 cond (decide (v3<(at1.length:Int)))
  ((idx at1 v3).bind fun x4=>
   (cond (decide (x4<0)) (some true) (cond (decide (x4≥rank2)) (some true) (cond (decide (v3>0)) ((idx at1 (wrap .i64 (v3-1))).bind fun x5=>
    some (decide (x4≤x5))) (some false)))).bind fun v6=>
   cond v6
    (some (.inr (.ret false)))
    (some (.inl (wrap .i64 (v3+1)))))
  (some (.inr (.bJ ())))
def jj (fu:Nat) (at1:List Int) (rank2:Int):Option Bool:=
 bd (fun r=>r) (aP (kJ fu at1 rank2) fu 0:Option (Ex Unit Bool)) fun (_:Unit)=>
 some true
def mM (fu:Nat) (l1:List Int) (n2:Int):Int→Option (Int⊕(Ex Unit Bool)):=fun v3=>
 cond (decide (v3<(l1.length:Int)))
  ((idx l1 v3).bind fun x4=>
   cond (x4==n2)
    (some (.inr (.ret true)))
    (some (.inl (wrap .i64 (v3+1)))))
  (some (.inr (.bJ ())))
def mN (fu:Nat) (l1:List Int) (n2:Int):Option Bool:=
 bd (fun r=>r) (aP (mM fu l1 n2) fu 0:Option (Ex Unit Bool)) fun (_:Unit)=>
 some false
def l6 (fu:Nat) (dims1:List Int) (in2:List Int):Int×(List Int)→Option ((Int×(List Int))⊕(List Int)):=fun (v3,m4)=>
 cond (decide (v3<(dims1.length:Int)))
  ((mN fu in2 v3).bind fun r5=>
   (cond (!r5)
     ((bj (m4.length+[v3].length≤maxLen∧(m4.length+[v3].length)*8≤140737488355328)).bind fun _=>
     some (m4++[v3]))
     (some m4)).bind fun m6=>
   some (.inl (wrap .i64 (v3+1),m6)))
  (some (.inr m4))
def jX (fu:Nat) (dims1:List Int) (in2:List Int):Option (List Int):=
 (aP (l6 fu dims1 in2) fu (0,([]:List Int))).bind fun m7=>
 some m7
def kG (fu:Nat) (dims1:List Int) (at2:List Int):Int×(List Int)→Option ((Int×(List Int))⊕(List Int)):=fun (v3,m4)=>
 cond (decide (v3<(at2.length:Int)))
  ((idx at2 v3).bind fun x5=>
   (idx dims1 x5).bind fun x6=>
   (bj (m4.length+[x6].length≤maxLen∧(m4.length+[x6].length)*8≤140737488355328)).bind fun _=>
   some (.inl (wrap .i64 (v3+1),m4++[x6])))
  (some (.inr m4))
def dd (fu:Nat) (dims1:List Int) (at2:List Int):Option (List Int):=
 (aP (kG fu dims1 at2) fu (0,([]:List Int))).bind fun m7=>
 some m7
def j8 (fu:Nat) (op1:cy) (d2:List Int):Int×(List Int)→Option ((Int×(List Int))⊕(Ex (List Int) ((List Int)×Int))):=fun (v4,m5)=>
 cond (decide (v4<(d2.length:Int)))
  (((idx op1.Lo v4).bind fun x6=>
    cond (decide (x6<0)) (some true) ((idx op1.Lo v4).bind fun x7=>
    cond (decide (x7>4096)) (some true) ((idx op1.Hi v4).bind fun x8=>
    cond (decide (x8<0)) (some true) ((idx op1.Hi v4).bind fun x9=>
    cond (decide (x9>4096)) (some true) ((idx op1.Step v4).bind fun x10=>
    cond (decide (x10<1)) (some true) ((idx op1.Step v4).bind fun x11=>
    some (decide (x11>4096)))))))).bind fun v12=>
   cond v12
    (some (.inr (.ret (([]:List Int),4))))
    ((idx d2 v4).bind fun x13=>
    (cond (decide (x13>0))
      ((idx d2 v4).bind fun x14=>
       (idx op1.Step v4).bind fun x15=>
       some (wrap .i64 ((wrap .i64 ((wrap .i64 (x14-1))*x15))+1)))
      (some 0)).bind fun n16=>
    (idx op1.Lo v4).bind fun x17=>
    (idx op1.Hi v4).bind fun x18=>
    (bj (m5.length+[wrap .i64 ((wrap .i64 (x17+n16))+x18)].length≤maxLen∧(m5.length+[wrap .i64 ((wrap .i64 (x17+n16))+x18)].length)*8≤140737488355328)).bind fun _=>
    some (.inl (wrap .i64 (v4+1),m5++[wrap .i64 ((wrap .i64 (x17+n16))+x18)]))))
  (some (.inr (.bJ m5)))
def l3 (fu:Nat) (op1:cy) (d2:List Int):Option ((List Int)×Int):=
 (cond ((op1.Lo.length:Int) !=(d2.length:Int)) (some true) (cond ((op1.Hi.length:Int) !=(d2.length:Int)) (some true) (some ((op1.Step.length:Int) !=(d2.length:Int))))).bind fun v3=>
 cond v3
  (some (([]:List Int),6))
  (bd (fun r=>r) (aP (j8 fu op1 d2) fu (0,([]:List Int)):Option (Ex (List Int) ((List Int)×Int))) fun (m19:List Int)=>
   some (m19,0))
def e8 (fu:Nat) (a1:List Int) (b2:List Int):Option (List Int):=
 (bj (([]:List Int).length+a1.length≤maxLen∧(([]:List Int).length+a1.length)*8≤140737488355328)).bind fun _=>
 (bj ((([]:List Int)++a1).length+b2.length≤maxLen∧((([]:List Int)++a1).length+b2.length)*8≤140737488355328)).bind fun _=>
 some ((([]:List Int)++a1)++b2)
def l4 (fu:Nat) (l1:List Int) (rank2:Int):Int→Option (Int⊕(Ex Unit Bool)):=fun v3=>
 cond (decide (v3<(l1.length:Int)))
  ((idx l1 v3).bind fun x4=>
   (cond (decide (x4<0)) (some true) (cond (decide (x4≥rank2)) (some true) ((bj ((0:Int)≤v3∧v3≤(l1.length:Int))).bind fun _=>
    (mN fu (eG l1 0 v3) x4).bind fun r5=>
    some r5))).bind fun v6=>
   cond v6
    (some (.inr (.ret false)))
    (some (.inl (wrap .i64 (v3+1)))))
  (some (.inr (.bJ ())))
def lM (fu:Nat) (l1:List Int) (rank2:Int):Option Bool:=
 bd (fun r=>r) (aP (l4 fu l1 rank2) fu 0:Option (Ex Unit Bool)) fun (_:Unit)=>
 some true
def l5 (fu:Nat) (op1:cy) (a2:List Int) (b3:List Int):Option ((List Int)×Int):=
 (cond ((op1.At.length:Int) !=(op1.Step.length:Int)) (some true) (some ((op1.Lo.length:Int) !=(op1.Hi.length:Int)))).bind fun v4=>
 cond v4
  (some (([]:List Int),6))
  (((e8 fu op1.At op1.Lo).bind fun r5=>
    (lM fu r5 (a2.length:Int)).bind fun r6=>
    cond (!r6) (some true) ((e8 fu op1.Step op1.Hi).bind fun r7=>
    (lM fu r7 (b3.length:Int)).bind fun r8=>
    some (!r8))).bind fun v9=>
   cond v9
    (some (([]:List Int),6))
    (((dd fu a2 op1.At).bind fun r10=>
     (dd fu b3 op1.Step).bind fun r11=>
     (cE fu r10 r11).bind fun r12=>
     cond (!r12) (some true) (cG (ee ((dd fu a2 op1.Lo).bind fun r13=>
     (dd fu b3 op1.Hi).bind fun r14=>
     (cE fu r13 r14).bind fun r15=>
     some (!r15))) ((dd fu a2 op1.Lo).bind fun r13=>
     (dd fu b3 op1.Hi).bind fun r14=>
     (cE fu r13 r14).bind fun r15=>
     some (!r15)))).bind fun v16=>
    cond v16
     (some (([]:List Int),6))
     ((e8 fu op1.At op1.Lo).bind fun r17=>
      (jX fu a2 r17).bind fun r18=>
      (dd fu a2 r18).bind fun r19=>
      (e8 fu op1.Step op1.Hi).bind fun r20=>
      (jX fu b3 r20).bind fun r21=>
      (dd fu b3 r21).bind fun r22=>
      (dd fu a2 op1.Lo).bind fun r23=>
      (e8 fu r23 r19).bind fun r24=>
      (e8 fu r24 r22).bind fun r25=>
      some (r25,0))))
def iB (fu:Nat) (op1:cy) (x10:List Int):Int×(List Int)→Option ((Int×(List Int))⊕(Ex (List Int) ((Int×(List Int))⊕(Ex (List Int) ((List Int)×Int))))):=fun (v11,m12)=>
 cond (decide (v11<(x10.length:Int)))
  ((idx op1.At 0).bind fun x13=>
   bd (fun r=>r) (cond (v11==x13)
     ((idx m12 v11).bind fun x14=>
     (idx x10 v11).bind fun x15=>
     (idx m12 v11).bind fun x16=>
     some (.bJ (m12.set v11.toNat (wrap .i64 (x14+x15)))))
     ((idx x10 v11).bind fun x17=>
     (idx m12 v11).bind fun x18=>
     cond (x17 !=x18)
      (some (.ret (.inr (.ret (.inr (.ret (([]:List Int),6)))))))
      (some (.bJ m12))):Option (Ex (List Int) ((Int×(List Int))⊕(Ex (List Int) ((Int×(List Int))⊕(Ex (List Int) ((List Int)×Int))))))) fun (m19:List Int)=>
   some (.inl (wrap .i64 (v11+1),m19)))
  (some (.inr (.bJ m12)))
def jK (fu:Nat) (op1:cy) (args2:List (List Int)):Int×(List Int)→Option ((Int×(List Int))⊕(Ex (List Int) ((List Int)×Int))):=fun (v8,m9)=>
 cond (decide (v8<((eG args2 1 (args2.length:Int)).length:Int)))
  ((idx (eG args2 1 (args2.length:Int)) v8).bind fun x10=>
   cond ((x10.length:Int) !=(m9.length:Int))
    (some (.inr (.ret (([]:List Int),6))))
    (bd (fun r=>r) (aP (iB fu op1 x10) fu (0,m9):Option (Ex (List Int) ((Int×(List Int))⊕(Ex (List Int) ((List Int)×Int))))) fun (m20:List Int)=>
    some (.inl (wrap .i64 (v8+1),m20))))
  (some (.inr (.bJ m9)))
def lc (fu:Nat) (op1:cy) (args2:List (List Int)):Option ((List Int)×Int):=
 (cond ((op1.At.length:Int) !=1) (some true) ((idx op1.At 0).bind fun x3=>
  cond (decide (x3<0)) (some true) ((idx op1.At 0).bind fun x4=>
  (idx args2 0).bind fun x5=>
  some (decide (x4≥(x5.length:Int)))))).bind fun v6=>
 cond v6
  (some (([]:List Int),6))
  ((idx args2 0).bind fun x7=>
   (bj (([]:List Int).length+x7.length≤maxLen∧(([]:List Int).length+x7.length)*8≤140737488355328)).bind fun _=>
   (bj ((0:Int)≤1∧1≤(args2.length:Int))).bind fun _=>
   bd (fun r=>r) (aP (jK fu op1 args2) fu (0,([]:List Int)++x7):Option (Ex (List Int) ((List Int)×Int))) fun (m21:List Int)=>
   some (m21,0))
def mO (fu:Nat) (l1:List Int) (n2:Int):Int→Option (Int⊕(Ex Unit Bool)):=fun v3=>
 cond (decide (v3<(l1.length:Int)))
  ((idx l1 v3).bind fun x4=>
   cond (x4==n2)
    (some (.inr (.ret true)))
    (some (.inl (wrap .i64 (v3+1)))))
  (some (.inr (.bJ ())))
def kH (fu:Nat) (l1:List Int) (n2:Int):Option Bool:=
 bd (fun r=>r) (aP (mO fu l1 n2) fu 0:Option (Ex Unit Bool)) fun (_:Unit)=>
 some false
def lg (fu:Nat) (dims1:List Int) (v2:Int):Int×Int→Option ((Int×Int)⊕Int):=fun (n4,v5)=>
 cond (decide (v5<((eG dims1 (wrap .i64 (v2+1)) (dims1.length:Int)).length:Int)))
  ((idx (eG dims1 (wrap .i64 (v2+1)) (dims1.length:Int)) v5).bind fun x6=>
   some (.inl (wrap .i64 (n4*x6),wrap .i64 (v5+1))))
  (some (.inr n4))
def lf (fu:Nat) (dims1:List Int):Int×(List Int)→Option ((Int×(List Int))⊕(List Int)):=fun (v2,m3)=>
 cond (decide (v2<(dims1.length:Int)))
  ((bj ((0:Int)≤(wrap .i64 (v2+1))∧(wrap .i64 (v2+1))≤(dims1.length:Int))).bind fun _=>
   (aP (lg fu dims1 v2) fu (1,0)).bind fun n7=>
   (kH fu dims1 0).bind fun r8=>
   (cond r8
     (some 0)
     (some n7)).bind fun n9=>
   (bj (m3.length+[n9].length≤maxLen∧(m3.length+[n9].length)*8≤140737488355328)).bind fun _=>
   some (.inl (wrap .i64 (v2+1),m3++[n9])))
  (some (.inr m3))
def nv (fu:Nat) (dims1:List Int):Option (List Int):=
 (aP (lf fu dims1) fu (0,([]:List Int))).bind fun m10=>
 some m10
def nu (fu:Nat) (dims1:List Int):Option (aK×Int):=
 (e9 fu dims1).bind fun (r2,r3)=>
 cond (r3 !=0)
  (some ((⟨0,([]:List Int),([]:List Int)⟩:aK),r3))
  ((nv fu dims1).bind fun r4=>
   some ((⟨0,dims1,r4⟩:aK),0))
def mP (fu:Nat) (n1:Int):Option Bool:=
 (cond (decide (n1>1099511627776)) (some true) (some (decide (n1<(-1099511627776))))).bind fun v2=>
 some v2
def ld (fu:Nat) (v1:aK):Int→Option (Int⊕(Ex Unit Int)):=fun v5=>
 cond (decide (v5<(v1.Steps.length:Int)))
  ((idx v1.Steps v5).bind fun x6=>
   (mP fu x6).bind fun r7=>
   cond r7
    (some (.inr (.ret 4)))
    (some (.inl (wrap .i64 (v5+1)))))
  (some (.inr (.bJ ())))
def gE (fu:Nat) (v1:aK):Option Int:=
 (e9 fu v1.au).bind fun (r2,r3)=>
 cond (r3 !=0)
  (some r3)
  (cond ((v1.Steps.length:Int) !=(v1.au.length:Int))
    (some 6)
    ((mP fu v1.Start).bind fun r4=>
    cond r4
     (some 4)
     (bd (fun r=>r) (aP (ld fu v1) fu 0:Option (Ex Unit Int)) fun (_:Unit)=>
      some 0)))
def kI (fu:Nat) (v1:aK) (dims2:List Int) (at3:List Int):Int×Int×(List Int)×(List Int)×(List Int)×Int×(List Int)→Option ((Int×Int×(List Int)×(List Int)×(List Int)×Int×(List Int))⊕(Ex (Int×(List Int)×(List Int)×(List Int)×Int×(List Int)) (aK×Int))):=fun (v12,m13,m14,m15,m16,m17,m18)=>
 cond (decide (v12<(at3.length:Int)))
  ((idx at3 v12).bind fun x19=>
   (idx dims2 x19).bind fun x20=>
   (idx v1.au v12).bind fun x21=>
   cond (x20 !=x21)
    (some (.inr (.ret ((⟨0,([]:List Int),([]:List Int)⟩:aK),6))))
    ((idx v1.Steps v12).bind fun x22=>
    (idx m16 x19).bind fun x23=>
    some (.inl (wrap .i64 (v12+1),m13,m14,m15,m16.set x19.toNat x22,m17,m18))))
  (some (.inr (.bJ (m13,m14,m15,m16,m17,m18))))
def mQ (fu:Nat) (v1:aK) (dims2:List Int) (at3:List Int):Option (aK×Int):=
 (gE fu v1).bind fun r4=>
 cond (r4 !=0)
  (some ((⟨0,([]:List Int),([]:List Int)⟩:aK),r4))
  ((e9 fu dims2).bind fun (r5,r6)=>
   cond (r6 !=0)
    (some ((⟨0,([]:List Int),([]:List Int)⟩:aK),r6))
    ((cond ((at3.length:Int) !=(v1.au.length:Int)) (some true) ((jj fu at3 (dims2.length:Int)).bind fun r7=>
     some (!r7))).bind fun v8=>
    cond v8
     (some ((⟨0,([]:List Int),([]:List Int)⟩:aK),6))
     ((ee ((bj ((0:Int)≤(dims2.length:Int)∧(dims2.length:Int)≤(dims2.length:Int)∧((8:Nat):Int)*(dims2.length:Int)≤281474976710656∧(dims2.length:Int)≤9223372036854775807)).bind fun _=>
       some (v1.Start,dims2,List.replicate (toNat (dims2.length:Int)) (0:Int)))).bind fun (m9,m10,m11)=>
      bd (fun r=>r) (aP (kI fu v1 dims2 at3) fu (0,0,([]:List Int),([]:List Int),m11,m9,m10):Option (Ex (Int×(List Int)×(List Int)×(List Int)×Int×(List Int)) (aK×Int))) fun ((m24,m25,m26,m27,m28,m29):Int×(List Int)×(List Int)×(List Int)×Int×(List Int))=>
      some ((⟨m28,m29,m27⟩:aK),0))))
def l9 (fu:Nat) (v1:aK) (perm2:List Int):Int×Int×(List Int)×(List Int)→Option ((Int×Int×(List Int)×(List Int))⊕(Ex (Int×(List Int)×(List Int)) (aK×Int))):=fun (v4,m5,m6,m7)=>
 cond (decide (v4<(v1.au.length:Int)))
  ((kH fu perm2 v4).bind fun r8=>
   cond (!r8)
    (some (.inr (.ret ((⟨0,([]:List Int),([]:List Int)⟩:aK),6))))
    (some (.inl (wrap .i64 (v4+1),m5,m6,m7))))
  (some (.inr (.bJ (m5,m6,m7))))
def l7 (fu:Nat) (v1:aK) (perm2:List Int):Int×Int×(List Int)×(List Int)→Option ((Int×Int×(List Int)×(List Int))⊕(Int×(List Int)×(List Int))):=fun (v12,m13,m14,m15)=>
 cond (decide (v12<(perm2.length:Int)))
  ((idx perm2 v12).bind fun x16=>
   ((idx v1.au x16).bind fun x17=>
    ee ((bj (m14.length+[x17].length≤maxLen∧(m14.length+[x17].length)*8≤140737488355328)).bind fun _=>
    some (m14++[x17],m13))).bind fun (m18,m19)=>
   ((idx v1.Steps x16).bind fun x20=>
    ee ((bj (m15.length+[x20].length≤maxLen∧(m15.length+[x20].length)*8≤140737488355328)).bind fun _=>
    some (m15++[x20],m19))).bind fun (m21,m22)=>
   some (.inl (wrap .i64 (v12+1),m22,m18,m21)))
  (some (.inr (m13,m14,m15)))
def oq (fu:Nat) (v1:aK) (perm2:List Int):Option (aK×Int):=
 (gE fu v1).bind fun r3=>
 cond (r3 !=0)
  (some ((⟨0,([]:List Int),([]:List Int)⟩:aK),r3))
  (cond ((perm2.length:Int) !=(v1.au.length:Int))
    (some ((⟨0,([]:List Int),([]:List Int)⟩:aK),6))
    (bd (fun r=>r) (aP (l9 fu v1 perm2) fu (0,0,([]:List Int),([]:List Int)):Option (Ex (Int×(List Int)×(List Int)) (aK×Int))) fun ((m9,m10,m11):Int×(List Int)×(List Int))=>
    (aP (l7 fu v1 perm2) fu (0,v1.Start,([]:List Int),([]:List Int))).bind fun (m23,m24,m25)=>
    some ((⟨m23,m24,m25⟩:aK),0)))
def mc (fu:Nat) (hi2:Int) (step3:Int):Int×Int→Option ((Int×Int)⊕Int):=fun (n4,i5)=>
 cond (decide (i5<hi2))
  (some (.inl (wrap .i64 (n4+1),wrap .i64 (i5+step3))))
  (some (.inr n4))
def lO (fu:Nat) (lo1:Int) (hi2:Int) (step3:Int):Option Int:=
 (aP (mc fu hi2 step3) fu (0,lo1)).bind fun n6=>
 some n6
def lN (fu:Nat) (v1:aK):Option (aK×Int):=
 (gE fu v1).bind fun r2=>
 cond (r2 !=0)
  (some ((⟨0,([]:List Int),([]:List Int)⟩:aK),5))
  (some (v1,0))
def mS (fu:Nat) (v1:aK) (lo2:List Int) (hi3:List Int) (step4:List Int):Int×Int×(List Int)×(List Int)→Option ((Int×Int×(List Int)×(List Int))⊕(Ex (Int×(List Int)×(List Int)) (aK×Int))):=fun (v7,m8,m9,m10)=>
 cond (decide (v7<(v1.au.length:Int)))
  ((idx v1.au v7).bind fun x11=>
   ((idx lo2 v7).bind fun x12=>
    cond (decide (x12<0)) (some true) ((idx hi3 v7).bind fun x13=>
    (idx lo2 v7).bind fun x14=>
    cond (decide (x13<x14)) (some true) ((idx hi3 v7).bind fun x15=>
    cond (decide (x11<x15)) (some true) ((idx step4 v7).bind fun x16=>
    cond (decide (x16<1)) (some true) ((idx step4 v7).bind fun x17=>
    some (decide (x17>4096))))))).bind fun v18=>
   cond v18
    (some (.inr (.ret ((⟨0,([]:List Int),([]:List Int)⟩:aK),4))))
    (some (.inl (wrap .i64 (v7+1),m8,m9,m10))))
  (some (.inr (.bJ (m8,m9,m10))))
def mR (fu:Nat) (v1:aK) (lo2:List Int) (hi3:List Int) (step4:List Int):Int×Int×(List Int)×(List Int)→Option ((Int×Int×(List Int)×(List Int))⊕(Int×(List Int)×(List Int))):=fun (v22,m23,m24,m25)=>
 cond (decide (v22<(v1.au.length:Int)))
  ((idx lo2 v22).bind fun x26=>
   (idx v1.Steps v22).bind fun x27=>
   ((idx lo2 v22).bind fun x28=>
    (idx hi3 v22).bind fun x29=>
    (idx step4 v22).bind fun x30=>
    cG ((lO fu x28 x29 x30).bind fun r31=>
    (bj (m24.length+[r31].length≤maxLen∧(m24.length+[r31].length)*8≤140737488355328)).bind fun _=>
    some (m24++[r31],wrap .i64 (m23+(wrap .i64 (x26*x27))))) ((lO fu x28 x29 x30).bind fun r31=>
    ee ((bj (m24.length+[r31].length≤maxLen∧(m24.length+[r31].length)*8≤140737488355328)).bind fun _=>
    some (m24++[r31],wrap .i64 (m23+(wrap .i64 (x26*x27))))))).bind fun (m32,m33)=>
   ((idx v1.Steps v22).bind fun x34=>
    (idx step4 v22).bind fun x35=>
    ee ((bj (m25.length+[wrap .i64 (x34*x35)].length≤maxLen∧(m25.length+[wrap .i64 (x34*x35)].length)*8≤140737488355328)).bind fun _=>
    some (m25++[wrap .i64 (x34*x35)],m33))).bind fun (m36,m37)=>
   some (.inl (wrap .i64 (v22+1),m37,m32,m36)))
  (some (.inr (m23,m24,m25)))
def pc (fu:Nat) (v1:aK) (lo2:List Int) (hi3:List Int) (step4:List Int):Option (aK×Int):=
 (gE fu v1).bind fun r5=>
 cond (r5 !=0)
  (some ((⟨0,([]:List Int),([]:List Int)⟩:aK),r5))
  ((cond ((lo2.length:Int) !=(v1.au.length:Int)) (some true) (cond ((hi3.length:Int) !=(v1.au.length:Int)) (some true) (some ((step4.length:Int) !=(v1.au.length:Int))))).bind fun v6=>
   cond v6
    (some ((⟨0,([]:List Int),([]:List Int)⟩:aK),6))
    (bd (fun r=>r) (aP (mS fu v1 lo2 hi3 step4) fu (0,0,([]:List Int),([]:List Int)):Option (Ex (Int×(List Int)×(List Int)) (aK×Int))) fun ((m19,m20,m21):Int×(List Int)×(List Int))=>
    (aP (mR fu v1 lo2 hi3 step4) fu (0,v1.Start,([]:List Int),([]:List Int))).bind fun (m38,m39,m40)=>
    (lN fu (⟨m38,m39,m40⟩:aK)).bind fun (r41,r42)=>
    some (r41,r42)))
def mf (fu:Nat) (v1:aK) (at2:List Int):Int×Int×(List Int)×(List Int)→Option ((Int×Int×(List Int)×(List Int))⊕(Int×(List Int)×(List Int))):=fun (v5,m6,m7,m8)=>
 cond (decide (v5<(v1.Steps.length:Int)))
  ((idx v1.Steps v5).bind fun x9=>
   (kH fu at2 v5).bind fun r10=>
   (cond r10
     ((idx v1.au v5).bind fun x11=>
     (cond (decide (x11>0))
       ((idx v1.au v5).bind fun x12=>
        some (wrap .i64 (m6+(wrap .i64 ((wrap .i64 (x12-1))*x9))),m7))
       (some (m6,m7))).bind fun (m13,m14)=>
     some (wrap .i64 (0-x9),m13,m14))
     (some (x9,m6,m7))).bind fun (s15,m16,m17)=>
   (bj (m8.length+[s15].length≤maxLen∧(m8.length+[s15].length)*8≤140737488355328)).bind fun _=>
   some (.inl (wrap .i64 (v5+1),m16,m17,m8++[s15])))
  (some (.inr (m6,m7,m8)))
def ot (fu:Nat) (v1:aK) (at2:List Int):Option (aK×Int):=
 (gE fu v1).bind fun r3=>
 cond (r3 !=0)
  (some ((⟨0,([]:List Int),([]:List Int)⟩:aK),r3))
  ((jj fu at2 (v1.au.length:Int)).bind fun r4=>
   cond (!r4)
    (some ((⟨0,([]:List Int),([]:List Int)⟩:aK),6))
    ((aP (mf fu v1 at2) fu (0,v1.Start,v1.au,([]:List Int))).bind fun (m18,m19,m20)=>
    (lN fu (⟨m18,m19,m20⟩:aK)).bind fun (r21,r22)=>
    some (r21,r22)))
def oo (fu:Nat) (op1:cy) (d2:List Int):Option ((List Int)×Int):=
 (nu fu d2).bind fun (r3,r4)=>
 cond (r4 !=0)
  (some (([]:List Int),r4))
  ((cond (op1.Kind==9)
     ((mQ fu r3 op1.au op1.At).bind fun (r5,r6)=>
     some (r6,r5.Start,r5.au,r5.Steps))
     ((cond (op1.Kind==11)
       ((oq fu r3 op1.At).bind fun (r7,r8)=>
        some (r8,r7.Start,r7.au,r7.Steps))
       ((cond (op1.Kind==13)
          ((pc fu r3 op1.Lo op1.Hi op1.Step).bind fun (r9,r10)=>
          some (r10,r9.Start,r9.au,r9.Steps))
          ((ot fu r3 op1.At).bind fun (r11,r12)=>
          some (r12,r11.Start,r11.au,r11.Steps))).bind fun (e13,m14,m15,m16)=>
        some (e13,m14,m15,m16))).bind fun (e17,m18,m19,m20)=>
     some (e17,m18,m19,m20))).bind fun (e21,m22,m23,m24)=>
   some (m23,e21))
def lb (fu:Nat) (args2:List (List Int)):Int→Option (Int⊕(Ex Unit ((List Int)×Int))):=fun v8=>
 cond (decide (v8<(args2.length:Int)))
  ((idx args2 v8).bind fun x9=>
   (idx args2 0).bind fun x10=>
   (cE fu x9 x10).bind fun r11=>
   cond (!r11)
    (some (.inr (.ret (([]:List Int),6))))
    (some (.inl (wrap .i64 (v8+1)))))
  (some (.inr (.bJ ())))
def dz (fu:Nat) (op1:cy) (args2:List (List Int)):Option ((List Int)×Int):=
 cond (op1.Kind==2)
  (some (op1.au,0))
  ((cond (op1.Kind==3)
     (some (op1.Kind==3))
     ((cond (op1.Kind==4)
       (some (op1.Kind==4))
       ((cond (op1.Kind==5)
          (some (op1.Kind==5))
          ((cond (op1.Kind==6)
            (some (op1.Kind==6))
            ((cond (op1.Kind==7)
               (some (op1.Kind==7))
               (some (op1.Kind==8))).bind fun v3=>
             some v3)).bind fun v4=>
          some v4)).bind fun v5=>
        some v5)).bind fun v6=>
     some v6)).bind fun v7=>
   cond v7
    (bd (fun r=>r) (aP (lb fu args2) fu 0:Option (Ex Unit ((List Int)×Int))) fun (_:Unit)=>
    (idx args2 0).bind fun x12=>
    some (x12,0))
    (cond (op1.Kind==10)
     ((idx args2 0).bind fun x13=>
      (jj fu op1.At (x13.length:Int)).bind fun r14=>
      cond (!r14)
       (some (([]:List Int),6))
       ((idx args2 0).bind fun x15=>
       (idx args2 0).bind fun x16=>
       (jX fu x16 op1.At).bind fun r17=>
       (dd fu x15 r17).bind fun r18=>
       some (r18,0)))
     (cond (op1.Kind==12)
       ((e9 fu op1.au).bind fun (r19,r20)=>
       cond (r20 !=0)
        (some (([]:List Int),r20))
        ((idx args2 0).bind fun x21=>
         (e9 fu x21).bind fun (r22,r23)=>
         cond (r22 !=r19)
          (some (([]:List Int),6))
          (some (op1.au,0))))
       (cond (op1.Kind==14)
        ((idx args2 0).bind fun x24=>
         (l3 fu op1 x24).bind fun (r25,r26)=>
         some (r25,r26))
        (cond (op1.Kind==16)
          ((idx args2 0).bind fun x27=>
          (idx args2 1).bind fun x28=>
          (l5 fu op1 x27 x28).bind fun (r29,r30)=>
          some (r29,r30))
          (cond (op1.Kind==17)
           ((lc fu op1 args2).bind fun (r31,r32)=>
            some (r31,r32))
           (cond (op1.Kind==18)
             ((idx args2 0).bind fun x33=>
             cond ((x33.length:Int)==0)
              (some (([]:List Int),6))
              ((idx args2 1).bind fun x34=>
               (idx args2 0).bind fun x35=>
               (bj ((0:Int)≤1∧1≤(x35.length:Int))).bind fun _=>
               (e8 fu x34 (eG x35 1 (x35.length:Int))).bind fun r36=>
               some (r36,0)))
             (cond (op1.Kind==19)
              ((cond ((op1.au.length:Int) !=1) (some true) ((idx args2 0).bind fun x37=>
                (idx args2 1).bind fun x38=>
                cond (decide ((x37.length:Int)<(x38.length:Int))) (some true) ((idx args2 0).bind fun x39=>
                (idx args2 1).bind fun x40=>
                (bj ((0:Int)≤(x40.length:Int)∧(x40.length:Int)≤(x39.length:Int))).bind fun _=>
                (idx args2 1).bind fun x41=>
                (cE fu (eG x39 0 (x40.length:Int)) x41).bind fun r42=>
                some (!r42)))).bind fun v43=>
               cond v43
                (some (([]:List Int),6))
                ((idx args2 0).bind fun x44=>
                (idx args2 1).bind fun x45=>
                (bj ((0:Int)≤(x45.length:Int)∧(x45.length:Int)≤(x44.length:Int))).bind fun _=>
                (e8 fu op1.au (eG x44 (x45.length:Int) (x44.length:Int))).bind fun r46=>
                some (r46,0)))
              ((idx args2 0).bind fun x47=>
               (oo fu op1 x47).bind fun (r48,r49)=>
               some (r48,r49))))))))))
def gI (fu:Nat) (args2:List (List Int)):Int→Option (Int⊕(Ex Unit ((List Int)×Int))):=fun v4=>
 cond (decide (v4<(args2.length:Int)))
  ((idx args2 v4).bind fun x5=>
   (e9 fu x5).bind fun (r6,r7)=>
   cond (r7 !=0)
    (some (.inr (.ret (([]:List Int),r7))))
    (some (.inl (wrap .i64 (v4+1)))))
  (some (.inr (.bJ ())))
def ig (fu:Nat) (op1:cy) (args2:List (List Int)):Option ((List Int)×Int):=
 (nq fu op1 (args2.length:Int)).bind fun r3=>
 cond (r3 !=0)
  (some (([]:List Int),r3))
  (bd (fun r=>r) (aP (gI fu args2) fu 0:Option (Ex Unit ((List Int)×Int))) fun (_:Unit)=>
   (dz fu op1 args2).bind fun (r8,r9)=>
   cond (r9 !=0)
    (some (([]:List Int),r9))
    ((e9 fu r8).bind fun (r10,r11)=>
    cond (r11 !=0)
     (some (([]:List Int),r11))
     (some (r8,0))))
def jO (fu:Nat) (v2:Int) (m3:List (List Int)) (x4:aq):Int×(List (List Int))→Option ((Int×(List (List Int)))⊕(Ex (List (List Int)) (Ex (List (List Int)) ((Int×(List (List Int)))⊕(Ex (List (List Int)) ((List (List Int))×Int)))))):=fun (v5,m6)=>
 cond (decide (v5<(x4.cH.length:Int)))
  ((idx x4.cH v5).bind fun x7=>
   (cond (decide (x7<0)) (some true) (some (decide (x7≥v2)))).bind fun v8=>
   cond v8
    (some (.inr (.ret (.ret (.inr (.ret (([]:List (List Int)),10)))))))
    ((idx m3 x7).bind fun x9=>
    (bj (m6.length+[x9].length≤maxLen∧(m6.length+[x9].length)*24≤140737488355328)).bind fun _=>
    some (.inl (wrap .i64 (v5+1),m6++[x9]))))
  (some (.inr (.bJ m6)))
def lZ (fu:Nat) (g1:cL):Int×(List (List Int))→Option ((Int×(List (List Int)))⊕(Ex (List (List Int)) ((List (List Int))×Int))):=fun (v2,m3)=>
 cond (decide (v2<(g1.aJ.length:Int)))
  (bd (fun r=>r) ((idx g1.aJ v2).bind fun x4=>
    bd (fun r=>r) (aP (jO fu v2 m3 x4) fu (0,([]:List (List Int))):Option (Ex (List (List Int)) (Ex (List (List Int)) ((Int×(List (List Int)))⊕(Ex (List (List Int)) ((List (List Int))×Int)))))) fun (m10:List (List Int))=>
    cond (x4.Op.Kind==1)
     (((kl fu g1).bind fun r11=>
      cond (decide (v2≥r11)) (some true) (cond ((x4.Op.At.length:Int) !=1) (some true) ((idx x4.Op.At 0).bind fun x12=>
      some (x12 !=v2)))).bind fun v13=>
     cond v13
      (some (.ret (.inr (.ret (([]:List (List Int)),7)))))
      (cond (decide ((x4.cH.length:Int)>0))
        (some (.ret (.inr (.ret (([]:List (List Int)),2)))))
        ((e9 fu x4.Op.au).bind fun (r14,r15)=>
        cond (r15 !=0)
         (some (.ret (.inr (.ret (([]:List (List Int)),r15)))))
         ((bj (m3.length+[x4.Op.au].length≤maxLen∧(m3.length+[x4.Op.au].length)*24≤140737488355328)).bind fun _=>
          some (.bJ (m3++[x4.Op.au]))))))
     ((ig fu x4.Op m10).bind fun (r16,r17)=>
     cond (r17 !=0)
      (some (.ret (.inr (.ret (([]:List (List Int)),r17)))))
      ((bj (m3.length+[r16].length≤maxLen∧(m3.length+[r16].length)*24≤140737488355328)).bind fun _=>
       some (.bJ (m3++[r16])))):Option (Ex (List (List Int)) ((Int×(List (List Int)))⊕(Ex (List (List Int)) ((List (List Int))×Int))))) fun (m18:List (List Int))=>
   some (.inl (wrap .i64 (v2+1),m18)))
  (some (.inr (.bJ m3)))
def lY (fu:Nat) (g1:cL):Int→Option (Int⊕(Ex Unit ((List (List Int))×Int))):=fun v20=>
 cond (decide (v20<(g1.lQ.length:Int)))
  ((idx g1.lQ v20).bind fun x21=>
   (cond (decide (x21<0)) (some true) (some (decide (x21≥(g1.aJ.length:Int))))).bind fun v22=>
   cond v22
    (some (.inr (.ret (([]:List (List Int)),4))))
    (some (.inl (wrap .i64 (v20+1)))))
  (some (.inr (.bJ ())))
def om (fu:Nat) (g1:cL):Option ((List (List Int))×Int):=
 cond (decide ((g1.aJ.length:Int)>4096))
  (some (([]:List (List Int)),5))
  (bd (fun r=>r) (aP (lZ fu g1) fu (0,([]:List (List Int))):Option (Ex (List (List Int)) ((List (List Int))×Int))) fun (m19:List (List Int))=>
   bd (fun r=>r) (aP (lY fu g1) fu 0:Option (Ex Unit ((List (List Int))×Int))) fun (_:Unit)=>
   some (m19,0))
def qq (fu:Nat) (g1:cL):Option Int:=
 (om fu g1).bind fun (r2,r3)=>
 some r3
def jA (self:(List aq)→Int→(List Int)→Option (List Int)) (fu:Nat) (at2:Int) (m3:List Int):Int→Option (Int⊕(Ex Unit (List Int))):=fun v4=>
 cond (decide (v4<(m3.length:Int)))
  ((idx m3 v4).bind fun x5=>
   cond (x5==at2)
    (some (.inr (.ret m3)))
    (some (.inl (wrap .i64 (v4+1)))))
  (some (.inr (.bJ ())))
def jz (self:(List aq)→Int→(List Int)→Option (List Int)) (fu:Nat) (nodes1:List aq) (x6:aq):Int×(List Int)→Option ((Int×(List Int))⊕(List Int)):=fun (v7,m8)=>
 cond (decide (v7<(x6.cH.length:Int)))
  ((idx x6.cH v7).bind fun x11=>
   (self nodes1 x11 m8).bind fun r12=>
   some (.inl (wrap .i64 (v7+1),r12)))
  (some (.inr m8))
def oQ (self:(List aq)→Int→(List Int)→Option (List Int)) (fu:Nat) (nodes1:List aq) (at2:Int) (m3:List Int):Option (List Int):=
 bd (fun r=>r) (aP (jA self fu at2 m3) fu 0:Option (Ex Unit (List Int))) fun (_:Unit)=>
 (idx nodes1 at2).bind fun x6=>
 (aP (jz self fu nodes1 x6) fu (0,m3)).bind fun m13=>
 (bj (m13.length+[at2].length≤maxLen∧(m13.length+[at2].length)*8≤140737488355328)).bind fun _=>
 some (m13++[at2])
def fO:Nat→(List aq)→Int→(List Int)→Option (List Int)
 | 0=>fun _ _ _=>none
 | fu+1=>oQ (fO fu) (fu+1)
def nr (fu:Nat) (op1:cy):Option (cy):=
 (cond (op1.Kind==1) (some true) (cond (op1.Kind==2) (some true) (cond (op1.Kind==9) (some true) (cond (op1.Kind==12) (some true) (some (op1.Kind==19)))))).bind fun v2=>
 (cond v2
   (some (op1.Kind,op1.au,([]:List Int),([]:List Int),([]:List Int),([]:List Int),0))
   (some (op1.Kind,([]:List Int),([]:List Int),([]:List Int),([]:List Int),([]:List Int),0)):Option (Int×(List Int)×(List Int)×(List Int)×(List Int)×(List Int)×Int)).bind fun (m3,m4,m5,m6,m7,m8,m9)=>
 (cond (op1.Kind==1) (some true) (cond (op1.Kind==9) (some true) (cond (op1.Kind==10) (some true) (cond (op1.Kind==11) (some true) (cond (op1.Kind==15) (some true) (cond (op1.Kind==17) (some true) (some (op1.Kind==16)))))))).bind fun v10=>
 (cond v10
   (some (m3,m4,op1.At,m6,m7,m8,m9))
   (some (m3,m4,m5,m6,m7,m8,m9))).bind fun (m11,m12,m13,m14,m15,m16,m17)=>
 (cond (op1.Kind==13) (some true) (cond (op1.Kind==14) (some true) (some (op1.Kind==16)))).bind fun v18=>
 (cond v18
   (some (m11,m12,m13,op1.Lo,op1.Hi,op1.Step,m17))
   (some (m11,m12,m13,m14,m15,m16,m17))).bind fun (m19,m20,m21,m22,m23,m24,m25)=>
 (cond (op1.Kind==2)
   (some (m19,m20,m21,m22,m23,m24,op1.Value))
   (some (m19,m20,m21,m22,m23,m24,m25))).bind fun (m26,m27,m28,m29,m30,m31,m32)=>
 some (⟨m26,m27,m28,m29,m30,m31,m32⟩:cy)
def nt (fu:Nat) (a1:cy) (b2:cy):Option Bool:=
 (cond (a1.Kind==b2.Kind) (cond (a1.Value==b2.Value) ((cE fu a1.au b2.au).bind fun r3=>
  cond r3 ((cE fu a1.At b2.At).bind fun r4=>
  cond r4 ((cE fu a1.Lo b2.Lo).bind fun r5=>
  cond r5 ((cE fu a1.Hi b2.Hi).bind fun r6=>
  cond r6 ((cE fu a1.Step b2.Step).bind fun r7=>
  some r7) (some false)) (some false)) (some false)) (some false)) (some false)) (some false)).bind fun v8=>
 some v8
def jB (fu:Nat) (a1:aq) (b2:aq):Option Bool:=
 ((nt fu a1.Op b2.Op).bind fun r3=>
  cond r3 ((cE fu a1.cH b2.cH).bind fun r4=>
  some r4) (some false)).bind fun v5=>
 some v5
def ji (fu:Nat) (params2:Int):Int×(List Int)→Option ((Int×(List Int))⊕(List Int)):=fun (i4,m5)=>
 cond (decide (i4<params2))
  ((bj (m5.length+[i4].length≤maxLen∧(m5.length+[i4].length)*8≤140737488355328)).bind fun _=>
   some (.inl (wrap .i64 (i4+1),m5++[i4])))
  (some (.inr m5))
def jh (fu:Nat) (nodes1:List aq) (outs3:List Int):Int×(List Int)→Option ((Int×(List Int))⊕(List Int)):=fun (v7,m8)=>
 cond (decide (v7<(outs3.length:Int)))
  ((idx outs3 v7).bind fun x9=>
   (fO fu nodes1 x9 m8).bind fun r10=>
   some (.inl (wrap .i64 (v7+1),r10)))
  (some (.inr m8))
def jg (fu:Nat) (m13:List Int) (x19:aq):Int×Int×(List Int)×(List Int)×(List Int)×(List Int)×(List Int)×Int×(List Int)→Option ((Int×Int×(List Int)×(List Int)×(List Int)×(List Int)×(List Int)×Int×(List Int))⊕(Int×(List Int)×(List Int)×(List Int)×(List Int)×(List Int)×Int×(List Int))):=fun (v20,m21,m22,m23,m24,m25,m26,m27,m28)=>
 cond (decide (v20<(x19.cH.length:Int)))
  ((idx x19.cH v20).bind fun x29=>
   ((idx m13 x29).bind fun x30=>
    ee ((bj (m28.length+[x30].length≤maxLen∧(m28.length+[x30].length)*8≤140737488355328)).bind fun _=>
    some (m28++[x30],m21,m22,m23,m24,m25,m26,m27))).bind fun (m31,m32,m33,m34,m35,m36,m37,m38)=>
   some (.inl (wrap .i64 (v20+1),m32,m33,m34,m35,m36,m37,m38,m31)))
  (some (.inr (m21,m22,m23,m24,m25,m26,m27,m28)))
def jf (fu:Nat) (m14:List aq) (x16:Int) (m39:Int) (m40:List Int) (m41:List Int) (m42:List Int) (m43:List Int) (m44:List Int) (m45:Int) (m46:List Int):Int×(List Int)→Option ((Int×(List Int))⊕(List Int)):=fun (v48,m49)=>
 cond (decide (v48<(m14.length:Int)))
  ((idx m14 v48).bind fun x50=>
   ((idx m49 x16).bind fun x51=>
    cond (x51==(m14.length:Int)) ((jB fu (⟨(⟨m39,m40,m41,m42,m43,m44,m45⟩:cy),m46⟩:aq) (⟨(⟨x50.Op.Kind,x50.Op.au,x50.Op.At,x50.Op.Lo,x50.Op.Hi,x50.Op.Step,x50.Op.Value⟩:cy),x50.cH⟩:aq)).bind fun r52=>
    some r52) (some false)).bind fun v53=>
   (cond v53
     ((idx m49 x16).bind fun x54=>
     some (m49.set x16.toNat v48))
     (some m49)).bind fun m55=>
   some (.inl (wrap .i64 (v48+1),m55)))
  (some (.inr m49))
def je (fu:Nat) (nodes1:List aq) (m11:List Int):Int×(List Int)×(List aq)×(List Int)→Option ((Int×(List Int)×(List aq)×(List Int))⊕((List Int)×(List aq)×(List Int))):=fun (v12,m13,m14,m15)=>
 cond (decide (v12<(m11.length:Int)))
  ((idx m11 v12).bind fun x16=>
   (idx nodes1 x16).bind fun x17=>
   (nr fu x17.Op).bind fun r18=>
   (idx nodes1 x16).bind fun x19=>
   (aP (jg fu m13 x19) fu (0,r18.Kind,r18.au,r18.At,r18.Lo,r18.Hi,r18.Step,r18.Value,([]:List Int))).bind fun (m39,m40,m41,m42,m43,m44,m45,m46)=>
   (idx m13 x16).bind fun x47=>
   (aP (jf fu m14 x16 m39 m40 m41 m42 m43 m44 m45 m46) fu (0,m13.set x16.toNat (m14.length:Int))).bind fun m56=>
   (idx m56 x16).bind fun x57=>
   (cond (x57==(m14.length:Int))
     ((bj (m14.length+[(⟨(⟨m39,m40,m41,m42,m43,m44,m45⟩:cy),m46⟩:aq)].length≤maxLen∧(m14.length+[(⟨(⟨m39,m40,m41,m42,m43,m44,m45⟩:cy),m46⟩:aq)].length)*160≤140737488355328)).bind fun _=>
     some (m14++[(⟨(⟨m39,m40,m41,m42,m43,m44,m45⟩:cy),m46⟩:aq)]))
     (some m14)).bind fun m58=>
   some (.inl (wrap .i64 (v12+1),m56,m58,m15)))
  (some (.inr (m13,m14,m15)))
def jd (fu:Nat) (outs3:List Int) (m59:List Int):Int×(List Int)→Option ((Int×(List Int))⊕(List Int)):=fun (v62,m63)=>
 cond (decide (v62<(outs3.length:Int)))
  ((idx outs3 v62).bind fun x64=>
   ((idx m59 x64).bind fun x65=>
    ee ((bj (m63.length+[x65].length≤maxLen∧(m63.length+[x65].length)*8≤140737488355328)).bind fun _=>
    some (m63++[x65]))).bind fun m66=>
   some (.inl (wrap .i64 (v62+1),m66)))
  (some (.inr m63))
def mL (fu:Nat) (nodes1:List aq) (params2:Int) (outs3:List Int):Option (cL):=
 (aP (ji fu params2) fu (0,([]:List Int))).bind fun m6=>
 (aP (jh fu nodes1 outs3) fu (0,m6)).bind fun m11=>
 (bj ((0:Int)≤(nodes1.length:Int)∧(nodes1.length:Int)≤(nodes1.length:Int)∧((8:Nat):Int)*(nodes1.length:Int)≤281474976710656∧(nodes1.length:Int)≤9223372036854775807)).bind fun _=>
 (aP (je fu nodes1 m11) fu (0,List.replicate (toNat (nodes1.length:Int)) (0:Int),([]:List aq),([]:List Int))).bind fun (m59,m60,m61)=>
 (aP (jd fu outs3 m59) fu (0,m61)).bind fun m67=>
 some (⟨m60,m67⟩:cL)
def rl (fu:Nat) (g1:cL):Option (cL×Int):=
 (qq fu g1).bind fun r2=>
 cond (r2 !=0)
  (some ((⟨([]:List aq),([]:List Int)⟩:cL),r2))
  ((kl fu g1).bind fun r3=>
   (mL fu g1.aJ r3 g1.lQ).bind fun r4=>
   some (r4,0))
def ie (fu:Nat) (a1:cL) (b2:cL):Int→Option (Int⊕(Ex Unit Bool)):=fun v5=>
 cond (decide (v5<(a1.aJ.length:Int)))
  ((idx a1.aJ v5).bind fun x6=>
   (idx b2.aJ v5).bind fun x7=>
   (jB fu x6 x7).bind fun r8=>
   cond (!r8)
    (some (.inr (.ret false)))
    (some (.inl (wrap .i64 (v5+1)))))
  (some (.inr (.bJ ())))
def kE (fu:Nat) (a1:cL) (b2:cL):Option Bool:=
 (cond ((a1.aJ.length:Int) !=(b2.aJ.length:Int)) (some true) ((cE fu a1.lQ b2.lQ).bind fun r3=>
  some (!r3))).bind fun v4=>
 cond v4
  (some false)
  (bd (fun r=>r) (aP (ie fu a1 b2) fu 0:Option (Ex Unit Bool)) fun (_:Unit)=>
   some true)
def jM (fu:Nat) (g1:cL):Option Bool:=
 (Aa fu g1).bind fun (r2,r3)=>
 (rl fu g1).bind fun (r4,r5)=>
 ((kE fu r2 r4).bind fun r6=>
  cond r6 (some (r3==r5)) (some false)).bind fun v7=>
 some v7
end F
end
end Go.DN
