/-
  The functions, as Lean functions dm data.
-/
import Derived.Test.YtfkigaldejbeiaaOwS
set_option maxRecDepth 20000
set_option linter.unusedVariables false
set_option linter.unusedSimpArgs false
namespace Go.DN
open Go.AM
noncomputable section
open Go.IntKind (wrap)
open Int (toNat)
namespace F
def na (fu:Nat) (s1:Int):Option Bool:=
 (cond (decide (s1<0)) (some true) (some (decide (s1>65536)))).bind fun (v2:Bool)=>
 some v2
def qz (fu:Nat) (s1:List Int):Int→Option (Int⊕(Ex Unit Int)):=fun v2=>
 cond (decide (v2<(s1.length:Int)))
  ((idx s1 v2).bind fun x3=>
   (na fu x3).bind fun (r4:Bool)=>
   cond r4
    (some (.inr (.ret v2)))
    (some (.inl (wrap .i64 (v2+1)))))
  (some (.inr (.dW ())))
def lI (fu:Nat) (s1:List Int):Option Int:=
 eU (fun r=>r) (aB (qz fu s1) fu 0:Option (Ex Unit Int)) fun (_:Unit)=>
 some (-1)
def iX (fu:Nat) (s1:List Int):Option Bool:=
 (lI fu s1).bind fun (r2:Int)=>
 some (decide (r2≥0))
def lg (fu:Nat) (n1:Int):Option Bool:=
 (cond (decide (n1<(-1048576))) (some true) (some (decide (n1>1048576)))).bind fun (v2:Bool)=>
 some v2
def pj (fu:Nat) (s1:List Int):Int→Option (Int⊕(Ex Unit Int)):=fun v2=>
 cond (decide (v2<(s1.length:Int)))
  ((idx s1 v2).bind fun x3=>
   (lg fu x3).bind fun (r4:Bool)=>
   cond r4
    (some (.inr (.ret v2)))
    (some (.inl (wrap .i64 (v2+1)))))
  (some (.inr (.dW ())))
def kH (fu:Nat) (s1:List Int):Option Int:=
 eU (fun r=>r) (aB (pj fu s1) fu 0:Option (Ex Unit Int)) fun (_:Unit)=>
 some (-1)
def ie (fu:Nat) (s1:List Int):Option Bool:=
 (kH fu s1).bind fun (r2:Int)=>
 some (decide (r2≥0))
def nG (fu:Nat) (r1:aO) (vars2:Int):Option Int:=
 cond ((r1.db.length:Int) !=vars2)
  (some 6)
  (((lg fu r1.Const).bind fun (r3:Bool)=>
    cond r3 (some true) ((ie fu r1.db).bind fun (r4:Bool)=>
    some r4)).bind fun (v5:Bool)=>
   cond v5
    (some 4)
    (some 0))
def mI (fu:Nat) (p1:bu):Int→Option (Int⊕(Ex Unit Int)):=fun v2=>
 cond (decide (v2<(p1.aU.length:Int)))
  ((idx p1.aU v2).bind fun x3=>
   (cond (decide (x3<0)) (some true) (some (decide (x3>4096)))).bind fun (v4:Bool)=>
   cond v4
    (some (.inr (.ret 4)))
    (some (.inl (wrap .i64 (v2+1)))))
  (some (.inr (.dW ())))
def mH (fu:Nat) (p1:bu):Int×Int→Option ((Int×Int)⊕Int):=fun (n5,v6)=>
 cond (decide (v6<(p1.aU.length:Int)))
  ((idx p1.aU v6).bind fun x7=>
   some (.inl (wrap .i64 (n5*x7),wrap .i64 (v6+1))))
  (some (.inr n5))
def mG (fu:Nat) (p1:bu):Int→Option (Int⊕(Ex Unit Int)):=fun v9=>
 cond (decide (v9<(p1.Rows.length:Int)))
  ((idx p1.Rows v9).bind fun x10=>
   (nG fu x10 (p1.aU.length:Int)).bind fun (r11:Int)=>
   cond (r11 !=0)
    (some (.inr (.ret r11)))
    (some (.inl (wrap .i64 (v9+1)))))
  (some (.inr (.dW ())))
def jh (fu:Nat) (p1:bu):Option Int:=
 cond (decide ((p1.aU.length:Int)>4))
  (some 3)
  (eU (fun r=>r) (aB (mI fu p1) fu 0:Option (Ex Unit Int)) fun (_:Unit)=>
   (aB (mH fu p1) fu (1,0)).bind fun (n8:Int)=>
   cond (decide (n8>4096))
    (some 5)
    (cond (decide ((p1.Rows.length:Int)>8))
     (some 2)
     (eU (fun r=>r) (aB (mG fu p1) fu 0:Option (Ex Unit Int)) fun (_:Unit)=>
      some 0)))
def uT (fu:Nat) (do1:Int):Option Int:=
 cond (do1==1)
  (some 0)
  ((cond (do1==2)
     (some (do1==2))
     (some (do1==9))).bind fun (v2:Bool)=>
   cond v2
    (some 1)
    ((cond (do1==3)
      (some (do1==3))
      ((cond (do1==4)
         (some (do1==4))
         ((cond (do1==5)
           (some (do1==5))
           ((cond (do1==6)
              (some (do1==6))
              ((cond (do1==7)
                (some (do1==7))
                (some (do1==10))).bind fun (v3:Bool)=>
              some v3)).bind fun (v4:Bool)=>
            some v4)).bind fun (v5:Bool)=>
         some v5)).bind fun (v6:Bool)=>
       some v6)).bind fun (v7:Bool)=>
    cond v7
     (some 2)
     (cond (do1==8)
       (some 3)
       (some (-1)))))
def kU (fu:Nat) (n1:aM) (s2:c9):Int→Option (Int⊕(Ex Unit Int)):=fun v5=>
 cond (decide (v5<(([s2.cg]++s2.de).length:Int)))
  ((idx ([s2.cg]++s2.de) v5).bind fun x6=>
   (cond (decide (x6.Array<0)) (some true) (some (decide (x6.Array≥(n1.cC.length:Int))))).bind fun (v7:Bool)=>
   cond v7
    (some (.inr (.ret 4)))
    ((nG fu x6.At (s2.ba.aU.length:Int)).bind fun (r8:Int)=>
    cond (r8 !=0)
     (some (.inr (.ret r8)))
     (some (.inl (wrap .i64 (v5+1))))))
  (some (.inr (.dW ())))
def nL (fu:Nat) (n1:aM) (s2:c9):Option Int:=
 (jh fu s2.ba).bind fun (r3:Int)=>
 cond (r3 !=0)
  (some r3)
  ((uT fu s2.Do).bind fun (r4:Int)=>
   cond (decide (r4<0))
    (some 1)
    (cond (r4 !=(s2.de.length:Int))
     (some 2)
     ((bo ([s2.cg].length+s2.de.length≤maxLen∧([s2.cg].length+s2.de.length)*40≤140737488355328)).bind fun _=>
      eU (fun r=>r) (aB (kU fu n1 s2) fu 0:Option (Ex Unit Int)) fun (_:Unit)=>
      some 0)))
def oK (fu:Nat) (n1:aM):Int→Option (Int⊕(Ex Unit Int)):=fun v3=>
 cond (decide (v3<(n1.bC.length:Int)))
  ((idx n1.bC v3).bind fun x4=>
   (nL fu n1 (⟨(⟨x4.ba.aU,x4.ba.Rows⟩:bu),x4.Do,x4.Value,(⟨x4.cg.Array,(⟨x4.cg.At.db,x4.cg.At.Const⟩:aO)⟩:bK),x4.de⟩:c9)).bind fun (r5:Int)=>
   cond (r5 !=0)
    (some (.inr (.ret r5)))
    (some (.inl (wrap .i64 (v3+1)))))
  (some (.inr (.dW ())))
def pV (fu:Nat) (n1:aM):Option Int:=
 cond (decide ((n1.bC.length:Int)>256))
  (some 2)
  ((iX fu n1.cC).bind fun (r2:Bool)=>
   cond r2
    (some 4)
    (eU (fun r=>r) (aB (oK fu n1) fu 0:Option (Ex Unit Int)) fun (_:Unit)=>
    some 0))
def qN (fu:Nat) (n1:aM) (v4:Int) (x5:List aO):Int→Option (Int⊕(Ex Unit (Int⊕(Ex Unit Int)))):=fun v6=>
 cond (decide (v6<(x5.length:Int)))
  ((idx x5 v6).bind fun x7=>
   (idx n1.bC v4).bind fun x8=>
   (nG fu x7 (x8.ba.aU.length:Int)).bind fun (r9:Int)=>
   cond (r9 !=0)
    (some (.inr (.ret (.inr (.ret r9)))))
    (some (.inl (wrap .i64 (v6+1)))))
  (some (.inr (.dW ())))
def nI (fu:Nat) (n1:aM) (times2:List (List aO)):Int→Option (Int⊕(Ex Unit Int)):=fun v4=>
 cond (decide (v4<(times2.length:Int)))
  ((idx times2 v4).bind fun x5=>
   cond (decide ((x5.length:Int)>8))
    (some (.inr (.ret 2)))
    (eU (fun r=>r) (aB (qN fu n1 v4 x5) fu 0:Option (Ex Unit (Int⊕(Ex Unit Int)))) fun (_:Unit)=>
    some (.inl (wrap .i64 (v4+1)))))
  (some (.inr (.dW ())))
def oy (fu:Nat) (n1:aM) (times2:List (List aO)):Option Int:=
 (pV fu n1).bind fun (r3:Int)=>
 cond (r3 !=0)
  (some r3)
  (cond ((times2.length:Int) !=(n1.bC.length:Int))
    (some 2)
    (eU (fun r=>r) (aB (nI fu n1 times2) fu 0:Option (Ex Unit Int)) fun (_:Unit)=>
    some 0))
def pN (fu:Nat) (p1:bu):Option ((List Int)×(List aO)):=
 some (p1.aU,p1.Rows)
def jg (fu:Nat) (p1:bu) (x2:List Int) (k3:Int) (x5:aO):Int×Int→Option ((Int×Int)⊕Int):=fun (n6,v7)=>
 cond (decide (v7<(x5.db.length:Int)))
  ((idx x5.db v7).bind fun x8=>
   (cond (decide (v7<k3))
     ((idx x2 v7).bind fun x9=>
     some (wrap .i64 (n6+(wrap .i64 (x8*x9)))))
     ((cond (decide (x8>0))
       ((idx p1.aU v7).bind fun x10=>
        some (wrap .i64 (n6+(wrap .i64 (x8*(wrap .i64 (x10-1)))))))
       (some n6)).bind fun (n11:Int)=>
     some n11)).bind fun (n12:Int)=>
   some (.inl (n12,wrap .i64 (v7+1))))
  (some (.inr n6))
def kK (fu:Nat) (p1:bu) (x2:List Int) (k3:Int):Int→Option (Int⊕(Ex Unit Bool)):=fun v4=>
 cond (decide (v4<(p1.Rows.length:Int)))
  ((idx p1.Rows v4).bind fun x5=>
   (aB (jg fu p1 x2 k3 x5) fu (x5.Const,0)).bind fun (n13:Int)=>
   cond (decide (n13<0))
    (some (.inr (.ret true)))
    (some (.inl (wrap .i64 (v4+1)))))
  (some (.inr (.dW ())))
def kL (fu:Nat) (p1:bu) (x2:List Int) (k3:Int):Option Bool:=
 eU (fun r=>r) (aB (kK fu p1 x2 k3) fu 0:Option (Ex Unit Bool)) fun (_:Unit)=>
 some false
def k7 (fu:Nat) (s1:List Int):Option (List Int):=
 sv (s1.length:Int) (some ([]:List Int)) ((bo (([]:List Int).length+s1.length≤maxLen∧(([]:List Int).length+s1.length)*8≤140737488355328)).bind fun _=>
 some (([]:List Int)++s1))
def pM (fu:Nat) (r1:aO) (x2:List Int):Int×Int→Option ((Int×Int)⊕Int):=fun (n3,v4)=>
 cond (decide (v4<(r1.db.length:Int)))
  ((idx r1.db v4).bind fun x5=>
   (idx x2 v4).bind fun x6=>
   some (.inl (wrap .i64 (n3+(wrap .i64 (x5*x6))),wrap .i64 (v4+1))))
  (some (.inr n3))
def po (fu:Nat) (r1:aO) (x2:List Int):Option Int:=
 (aB (pM fu r1 x2) fu (r1.Const,0)).bind fun (n7:Int)=>
 some n7
def ji (fu:Nat) (v1:List Int) (x8:List aO):Int×(List Int)→Option ((Int×(List Int))⊕(List Int)):=fun (v9,m10)=>
 cond (decide (v9<(x8.length:Int)))
  ((idx x8 v9).bind fun x11=>
   (po fu x11 v1).bind fun (r12:Int)=>
   (idx m10 v9).bind fun x13=>
   some (.inl (wrap .i64 (v9+1),m10.set v9.toNat r12)))
  (some (.inr m10))
def mJ (fu:Nat) (v1:List Int) (m2:List (List aO)) (m3:Int) (m4:Int) (m5:Int) (m6:List af) (m7:List af):Option (Int×(List (List aO))×Int×Int×Int×(List af)×(List af)):=
 cond ((m7.length:Int)==1024)
  (some (2,m2,5,m4,m5,([]:List af),m7))
  ((bo ((0:Int)≤m4∧m4≤m4∧((8:Nat):Int)*m4≤281474976710656∧m4≤9223372036854775807)).bind fun _=>
   (idx m2 m5).bind fun x8=>
   (aB (ji fu v1 x8) fu (0,List.replicate (toNat m4) (0:Int))).bind fun (m14:List Int)=>
   (bo (m7.length+[(⟨(⟨m5,v1⟩:bE),(m7.length:Int),m14⟩:af)].length≤maxLen∧(m7.length+[(⟨(⟨m5,v1⟩:bE),(m7.length:Int),m14⟩:af)].length)*64≤140737488355328)).bind fun _=>
   some (0,m2,m3,m4,m5,m6,m7++[(⟨(⟨m5,v1⟩:bE),(m7.length:Int),m14⟩:af)]))
def lO (self:bu→Int→(List Int)→Int→(List (List aO))→Int→Int→Int→(List af)→(List af)→Option (Bool×(List Int)×Int×(List (List aO))×Int×Int×Int×(List af)×(List af))) (fu:Nat) (p1:bu) (k2:Int):(List Int)×Int×(List (List aO))×Int×Int×Int×(List af)×(List af)→Option (((List Int)×Int×(List (List aO))×Int×Int×Int×(List af)×(List af))⊕(Ex ((List Int)×Int×(List (List aO))×Int×Int×Int×(List af)×(List af)) (Bool×(List Int)×Int×(List (List aO))×Int×Int×Int×(List af)×(List af)))):=fun (m21,m22,m23,m24,m25,m26,m27,m28)=>
 (idx m21 k2).bind fun x42=>
 (idx p1.aU k2).bind fun x43=>
 cond (decide (x42<x43))
  ((self p1 (wrap .i64 (k2+1)) m21 m22 m23 m24 m25 m26 m27 m28).bind fun ((r44,r45,r46,r47,r48,r49,r50,r51,r52):Bool×(List Int)×Int×(List (List aO))×Int×Int×Int×(List af)×(List af))=>
   bif Nat.beq (List.length r45) (List.length m21) then
   cond (!r44)
    (some (.inr (.ret (false,r45,r46,r47,r48,r49,r50,r51,r52))))
    ((idx r45 k2).bind fun x53=>
    (idx r45 k2).bind fun x54=>
    some (.inl (r45.set k2.toNat (wrap .i64 (x53+1)),r46,r47,r48,r49,r50,r51,r52)))
   else none)
  (some (.inr (.dW (m21,m22,m23,m24,m25,m26,m27,m28))))
def kJ (self:bu→Int→(List Int)→Int→(List (List aO))→Int→Int→Int→(List af)→(List af)→Option (Bool×(List Int)×Int×(List (List aO))×Int×Int×Int×(List af)×(List af))) (fu:Nat) (p1:bu) (k2:Int) (m3:List Int) (m4:Int) (m5:List (List aO)) (m6:Int) (m7:Int) (m8:Int) (m9:List af) (m10:List af):Option (Bool×(List Int)×Int×(List (List aO))×Int×Int×Int×(List af)×(List af)):=
 (kL fu p1 m3 k2).bind fun (r11:Bool)=>
 cond r11
  (some (true,m3,m4,m5,m6,m7,m8,m9,m10))
  (cond (k2==(p1.aU.length:Int))
    ((k7 fu m3).bind fun (r12:List Int)=>
    (bo (m4=0)).bind fun _=>
    (mJ fu r12 m5 m6 m7 m8 m9 m10).bind fun ((r13,r14,r15,r16,r17,r18,r19):Int×(List (List aO))×Int×Int×Int×(List af)×(List af))=>
    cond (r13==0)
     (some (true,m3,0,r14,r15,r16,r17,r18,r19))
     (some (false,m3,r13,r14,r15,r16,r17,r18,r19)))
    ((idx m3 k2).bind fun x20=>
    eU (fun r=>r) (aB (lO self fu p1 k2) fu (m3.set k2.toNat 0,m4,m5,m6,m7,m8,m9,m10):Option (Ex ((List Int)×Int×(List (List aO))×Int×Int×Int×(List af)×(List af)) (Bool×(List Int)×Int×(List (List aO))×Int×Int×Int×(List af)×(List af)))) fun ((m55,m56,m57,m58,m59,m60,m61,m62):(List Int)×Int×(List (List aO))×Int×Int×Int×(List af)×(List af))=>
    some (true,m55,m56,m57,m58,m59,m60,m61,m62)))
def gU:Nat→bu→Int→(List Int)→Int→(List (List aO))→Int→Int→Int→(List af)→(List af)→Option (Bool×(List Int)×Int×(List (List aO))×Int×Int×Int×(List af)×(List af))
 | 0=>fun _ _ _ _ _ _ _ _ _ _=>none
 | fu+1=>kJ (gU fu) (fu+1)
def j8 (fu:Nat) (m1:Int) (m2:List Int) (m3:List aO) (m4:List (List aO)) (m5:Int) (m6:Int) (m7:Int) (m8:List af) (m9:List af):Option (Int×(List Int)×(List aO)×(List (List aO))×Int×Int×Int×(List af)×(List af)):=
 (jh fu (⟨m2,m3⟩:bu)).bind fun (r10:Int)=>
 (cond (r10==0)
   ((bo ((0:Int)≤(m2.length:Int)∧(m2.length:Int)≤(m2.length:Int)∧((8:Nat):Int)*(m2.length:Int)≤281474976710656∧(m2.length:Int)≤9223372036854775807)).bind fun _=>
    (gU fu (⟨m2,m3⟩:bu) 0 (List.replicate (toNat (m2.length:Int)) (0:Int)) m1 m4 m5 m6 m7 m8 m9).bind fun ((r11,r12,r13,r14,r15,r16,r17,r18,r19):Bool×(List Int)×Int×(List (List aO))×Int×Int×Int×(List af)×(List af))=>
    bif Nat.beq (List.length r12) (List.length (List.replicate (toNat (m2.length:Int)) (0:Int))) then
    some (r13,r14,r15,r16,r17,r18,r19)
    else none)
   (some (m1,m4,m5,m6,m7,m8,m9))).bind fun ((m20,m21,m22,m23,m24,m25,m26):Int×(List (List aO))×Int×Int×Int×(List af)×(List af))=>
 some (m20,m2,m3,m21,m22,m23,m24,m25,m26)
def jX (fu:Nat) (times2:List (List aO)):Int×Int→Option ((Int×Int)⊕Int):=fun (v4,m5)=>
 cond (decide (v4<(times2.length:Int)))
  ((idx times2 v4).bind fun x6=>
   some (.inl (wrap .i64 (v4+1),(if (x6.length:Int)>m5 then(x6.length:Int) else m5))))
  (some (.inr m5))
def gl (fu:Nat) (n1:aM):Int×(List (List aO))×Int×Int×(List af)×(List af)→Option ((Int×(List (List aO))×Int×Int×(List af)×(List af))⊕(Ex ((List (List aO))×Int×Int×(List af)×(List af)) (Int×(List af)))):=fun (v8,m9,m10,m11,m12,m13)=>
 cond (decide (v8<(n1.bC.length:Int)))
  ((idx n1.bC v8).bind fun x14=>
   (pN fu x14.ba).bind fun ((r15,r16):(List Int)×(List aO))=>
   (j8 fu 0 r15 r16 m9 m10 m11 v8 m12 m13).bind fun ((r17,r18,r19,r20,r21,r22,r23,r24,r25):Int×(List Int)×(List aO)×(List (List aO))×Int×Int×Int×(List af)×(List af))=>
   cond (r17==0)
    (some (.inl (wrap .i64 (v8+1),r20,r21,r22,r24,r25)))
    (cond (r17==1)
     (none)
     (some (.inr (.ret (r21,r24))))))
  (some (.inr (.dW (m9,m10,m11,m12,m13))))
def iA (fu:Nat) (n1:aM) (times2:List (List aO)):Option (Int×(List af)):=
 (oy fu n1 times2).bind fun (r3:Int)=>
 cond (r3 !=0)
  (some (r3,([]:List af)))
  ((aB (jX fu times2) fu (0,0)).bind fun (m7:Int)=>
   eU (fun r=>r) (aB (gl fu n1) fu (0,times2,0,m7,([]:List af),([]:List af)):Option (Ex ((List (List aO))×Int×Int×(List af)×(List af)) (Int×(List af)))) fun ((m26,m27,m28,m29,m30):(List (List aO))×Int×Int×(List af)×(List af))=>
   some (0,m30))
def nE (fu:Nat) (s1:List Int):Option (List Int):=
 sv (s1.length:Int) (some ([]:List Int)) ((bo (([]:List Int).length+s1.length≤maxLen∧(([]:List Int).length+s1.length)*8≤140737488355328)).bind fun _=>
 some (([]:List Int)++s1))
def lm (fu:Nat) (n1:aM) (mem2:List (List Int)):Int×(List (List Int))→Option ((Int×(List (List Int)))⊕(Ex (List (List Int)) (Int×(List (List Int))))):=fun (v3,m4)=>
 cond (decide (v3<(mem2.length:Int)))
  ((idx mem2 v3).bind fun x5=>
   (idx n1.cC v3).bind fun x6=>
   cond ((x5.length:Int) !=x6)
    (some (.inr (.ret (6,([]:List (List Int))))))
    ((nE fu x5).bind fun (r7:List Int)=>
    (bo ((0:Int)≤v3∧v3<(m4.length:Int))).bind fun _=>
    (bo (v3.toNat<m4.length)).bind fun _=>
    some (.inl (wrap .i64 (v3+1),m4.set v3.toNat r7))))
  (some (.inr (.dW m4)))
def gP (fu:Nat) (n1:aM) (mem2:List (List Int)):Option (Int×(List (List Int))):=
 cond ((mem2.length:Int) !=(n1.cC.length:Int))
  (some (2,([]:List (List Int))))
  ((bo ((0:Int)≤(mem2.length:Int)∧(mem2.length:Int)≤(mem2.length:Int)∧((24:Nat):Int)*(mem2.length:Int)≤281474976710656∧(mem2.length:Int)≤9223372036854775807)).bind fun _=>
   (bo (wH (List.replicate (toNat (mem2.length:Int)) ([]:List Int))=true)).bind fun _=>
   eU (fun r=>r) (aB (lm fu n1 mem2) fu (0,List.replicate (toNat (mem2.length:Int)) ([]:List Int)):Option (Ex (List (List Int)) (Int×(List (List Int))))) fun (m8:List (List Int))=>
   some (0,m8))
def vm (fu:Nat) (x1:Int):Option Bool:=
 some (x1 !=x1)
def rL (fu:Nat) (x1:Int) (y2:Int):Option Int:=
 (vm fu x1).bind fun (r3:Bool)=>
 (vm fu y2).bind fun (r4:Bool)=>
 cond r3
  (cond r4
    (some 0)
    (some (-1)))
  (cond r4
    (some 1)
    (cond (decide (x1<y2))
     (some (-1))
     (cond (decide (x1>y2))
       (some 1)
       (some 0))))
def iN (fu:Nat) (s1:List Int) (s2:List Int):Int→Option (Int⊕(Ex Unit Int)):=fun v3=>
 cond (decide (v3<(s1.length:Int)))
  ((idx s1 v3).bind fun x4=>
   cond (decide (v3≥(s2.length:Int)))
    (some (.inr (.ret 1)))
    ((idx s2 v3).bind fun x5=>
    (rL fu x4 x5).bind fun (r6:Int)=>
    cond (r6 !=0)
     (some (.inr (.ret r6)))
     (some (.inl (wrap .i64 (v3+1))))))
  (some (.inr (.dW ())))
def k6 (fu:Nat) (s1:List Int) (s2:List Int):Option Int:=
 eU (fun r=>r) (aB (iN fu s1 s2) fu 0:Option (Ex Unit Int)) fun (_:Unit)=>
 cond (decide ((s1.length:Int)<(s2.length:Int)))
  (some (-1))
  (some 0)
def jR (fu:Nat) (a1:af) (b2:af):Option Int:=
 (k6 fu a1.time b2.time).bind fun (r3:Int)=>
 some r3
def eN (fu:Nat) (a1:Int):Int×(List af)→Option ((Int×(List af))⊕(List af)):=fun (j6,m7)=>
 (cond (decide (j6>a1)) ((idx m7 j6).bind fun x8=>
  (idx m7 (wrap .i64 (j6-1))).bind fun x9=>
  (jR fu x8 x9).bind fun (r10:Int)=>
  some (decide (r10<0))) (some false)).bind fun (v11:Bool)=>
 cond v11
  (((idx m7 (wrap .i64 (j6-1))).bind fun x12=>
    (idx m7 j6).bind fun x13=>
    vK ((idx m7 j6).bind fun x14=>
    (idx (m7.set j6.toNat x12) (wrap .i64 (j6-1))).bind fun x15=>
    some ((m7.set j6.toNat x12).set ((wrap .i64 (j6-1)).toNat) x13))).bind fun (m16:List af)=>
   some (.inl (wrap .i64 (j6-1),m16)))
  (some (.inr m7))
def eM (fu:Nat) (a1:Int) (b2:Int):Int×(List af)→Option ((Int×(List af))⊕(List af)):=fun (i4,m5)=>
 cond (decide (i4<b2))
  ((aB (eN fu a1) fu (i4,m5)).bind fun (m17:List af)=>
   some (.inl (wrap .i64 (i4+1),m17)))
  (some (.inr m5))
def fp (fu:Nat) (a1:Int) (b2:Int) (m3:List af):Option (List af):=
 (aB (eM fu a1 b2) fu (wrap .i64 (a1+1),m3)).bind fun (m18:List af)=>
 some m18
def gT (fu:Nat) (a1:Int) (b2:Int) (n3:Int):Int×(List af)→Option ((Int×(List af))⊕(List af)):=fun (i5,m6)=>
 cond (decide (i5<n3))
  (((idx m6 (wrap .i64 (b2+i5))).bind fun x7=>
    (idx m6 (wrap .i64 (a1+i5))).bind fun x8=>
    vK ((idx m6 (wrap .i64 (a1+i5))).bind fun x9=>
    (idx (m6.set ((wrap .i64 (a1+i5)).toNat) x7) (wrap .i64 (b2+i5))).bind fun x10=>
    some ((m6.set ((wrap .i64 (a1+i5)).toNat) x7).set ((wrap .i64 (b2+i5)).toNat) x8))).bind fun (m11:List af)=>
   some (.inl (wrap .i64 (i5+1),m11)))
  (some (.inr m6))
def ft (fu:Nat) (a1:Int) (b2:Int) (n3:Int) (m4:List af):Option (List af):=
 (aB (gT fu a1 b2 n3) fu (0,m4)).bind fun (m12:List af)=>
 some m12
def kx (fu:Nat) (m2:Int):Int×Int×(List af)→Option ((Int×Int×(List af))⊕(Int×(List af))):=fun (i5,j6,m7)=>
 cond (i5 !=j6)
  ((cond (decide (i5>j6))
     ((ft fu (wrap .i64 (m2-i5)) m2 j6 m7).bind fun (r8:List af)=>
     bif Nat.beq (List.length r8) (List.length m7) then
     some (wrap .i64 (i5-j6),j6,r8)
     else none)
     ((ft fu (wrap .i64 (m2-i5)) (wrap .i64 ((wrap .i64 (m2+j6))-i5)) i5 m7).bind fun (r9:List af)=>
     bif Nat.beq (List.length r9) (List.length m7) then
     some (i5,wrap .i64 (j6-i5),r9)
     else none)).bind fun ((i10,j11,m12):Int×Int×(List af))=>
   some (.inl (i10,j11,m12)))
  (some (.inr (i5,m7)))
def gk (fu:Nat) (a1:Int) (m2:Int) (b3:Int) (m4:List af):Option (List af):=
 (aB (kx fu m2) fu (wrap .i64 (m2-a1),wrap .i64 (b3-m2),m4)).bind fun ((i13,m14):Int×(List af))=>
 (ft fu (wrap .i64 (m2-i13)) m2 i13 m14).bind fun (r15:List af)=>
 bif Nat.beq (List.length r15) (List.length m14) then
 some r15
 else none
def im (self:Int→Int→Int→(List af)→Option (List af)) (fu:Nat) (a1:Int) (m4:List af):Int×Int→Option ((Int×Int)⊕Int):=fun (i5,j6)=>
 cond (decide (i5<j6))
  ((bo ((0:Int)≤1)).bind fun _=>
   (idx m4 (wrap .i64 (Int.fdiv (wrap .u64 (wrap .i64 (i5+j6))) (2^(min (toNat 1) (IntKind.bits .u64)))))).bind fun x7=>
   (idx m4 a1).bind fun x8=>
   (jR fu x7 x8).bind fun (r9:Int)=>
   (cond (decide (r9<0))
     (some (wrap .i64 ((wrap .i64 (Int.fdiv (wrap .u64 (wrap .i64 (i5+j6))) (2^(min (toNat 1) (IntKind.bits .u64)))))+1),j6))
     (some (i5,wrap .i64 (Int.fdiv (wrap .u64 (wrap .i64 (i5+j6))) (2^(min (toNat 1) (IntKind.bits .u64))))))).bind fun ((i10,j11):Int×Int)=>
   some (.inl (i10,j11)))
  (some (.inr i5))
def il (self:Int→Int→Int→(List af)→Option (List af)) (fu:Nat) (i12:Int):Int×(List af)→Option ((Int×(List af))⊕(List af)):=fun (k13,m14)=>
 cond (decide (k13<(wrap .i64 (i12-1))))
  (((idx m14 (wrap .i64 (k13+1))).bind fun x15=>
    (idx m14 k13).bind fun x16=>
    vK ((idx m14 k13).bind fun x17=>
    (idx (m14.set k13.toNat x15) (wrap .i64 (k13+1))).bind fun x18=>
    some ((m14.set k13.toNat x15).set ((wrap .i64 (k13+1)).toNat) x16))).bind fun (m19:List af)=>
   some (.inl (wrap .i64 (k13+1),m19)))
  (some (.inr m14))
def fU (self:Int→Int→Int→(List af)→Option (List af)) (fu:Nat) (m2:Int) (m4:List af):Int×Int→Option ((Int×Int)⊕Int):=fun (i21,j22)=>
 cond (decide (i21<j22))
  ((bo ((0:Int)≤1)).bind fun _=>
   (idx m4 m2).bind fun x23=>
   (idx m4 (wrap .i64 (Int.fdiv (wrap .u64 (wrap .i64 (i21+j22))) (2^(min (toNat 1) (IntKind.bits .u64)))))).bind fun x24=>
   (jR fu x23 x24).bind fun (r25:Int)=>
   (cond (!(decide (r25<0)))
     (some (wrap .i64 ((wrap .i64 (Int.fdiv (wrap .u64 (wrap .i64 (i21+j22))) (2^(min (toNat 1) (IntKind.bits .u64)))))+1),j22))
     (some (i21,wrap .i64 (Int.fdiv (wrap .u64 (wrap .i64 (i21+j22))) (2^(min (toNat 1) (IntKind.bits .u64))))))).bind fun ((i26,j27):Int×Int)=>
   some (.inl (i26,j27)))
  (some (.inr i21))
def ik (self:Int→Int→Int→(List af)→Option (List af)) (fu:Nat) (i28:Int):Int×(List af)→Option ((Int×(List af))⊕(List af)):=fun (k29,m30)=>
 cond (decide (k29>i28))
  (((idx m30 (wrap .i64 (k29-1))).bind fun x31=>
    (idx m30 k29).bind fun x32=>
    vK ((idx m30 k29).bind fun x33=>
    (idx (m30.set k29.toNat x31) (wrap .i64 (k29-1))).bind fun x34=>
    some ((m30.set k29.toNat x31).set ((wrap .i64 (k29-1)).toNat) x32))).bind fun (m35:List af)=>
   some (.inl (wrap .i64 (k29-1),m35)))
  (some (.inr m30))
def fT (self:Int→Int→Int→(List af)→Option (List af)) (fu:Nat) (a1:Int) (m2:Int) (b3:Int) (m4:List af):Int×Int→Option ((Int×Int)⊕Int):=fun (start39,r40)=>
 cond (decide (start39<r40))
  ((bo ((0:Int)≤1)).bind fun _=>
   (idx m4 (wrap .i64 ((wrap .i64 ((wrap .i64 ((wrap .i64 (Int.fdiv (wrap .u64 (wrap .i64 (a1+b3))) (2^(min (toNat 1) (IntKind.bits .u64)))))+m2))-1))-(wrap .i64 (Int.fdiv (wrap .u64 (wrap .i64 (start39+r40))) (2^(min (toNat 1) (IntKind.bits .u64)))))))).bind fun x41=>
   (idx m4 (wrap .i64 (Int.fdiv (wrap .u64 (wrap .i64 (start39+r40))) (2^(min (toNat 1) (IntKind.bits .u64)))))).bind fun x42=>
   (jR fu x41 x42).bind fun (r43:Int)=>
   (cond (!(decide (r43<0)))
     (some (wrap .i64 ((wrap .i64 (Int.fdiv (wrap .u64 (wrap .i64 (start39+r40))) (2^(min (toNat 1) (IntKind.bits .u64)))))+1),r40))
     (some (start39,wrap .i64 (Int.fdiv (wrap .u64 (wrap .i64 (start39+r40))) (2^(min (toNat 1) (IntKind.bits .u64))))))).bind fun ((start44,r45):Int×Int)=>
   some (.inl (start44,r45)))
  (some (.inr start39))
def mV (self:Int→Int→Int→(List af)→Option (List af)) (fu:Nat) (a1:Int) (m2:Int) (b3:Int) (m4:List af):Option (List af):=
 cond ((wrap .i64 (m2-a1))==1)
  ((aB (im self fu a1 m4) fu (m2,b3)).bind fun (i12:Int)=>
   (aB (il self fu i12) fu (a1,m4)).bind fun (m20:List af)=>
   some m20)
  (cond ((wrap .i64 (b3-m2))==1)
    ((aB (fU self fu m2 m4) fu (a1,m2)).bind fun (i28:Int)=>
    (aB (ik self fu i28) fu (m2,m4)).bind fun (m36:List af)=>
    some m36)
    ((bo ((0:Int)≤1)).bind fun _=>
    (cond (decide (m2>(wrap .i64 (Int.fdiv (wrap .u64 (wrap .i64 (a1+b3))) (2^(min (toNat 1) (IntKind.bits .u64)))))))
      (some (wrap .i64 ((wrap .i64 ((wrap .i64 (Int.fdiv (wrap .u64 (wrap .i64 (a1+b3))) (2^(min (toNat 1) (IntKind.bits .u64)))))+m2))-b3),wrap .i64 (Int.fdiv (wrap .u64 (wrap .i64 (a1+b3))) (2^(min (toNat 1) (IntKind.bits .u64))))))
      (some (a1,m2))).bind fun ((start37,r38):Int×Int)=>
    (aB (fT self fu a1 m2 b3 m4) fu (start37,r38)).bind fun (start46:Int)=>
    (cond (decide (start46<m2)) (some (decide (m2<(wrap .i64 ((wrap .i64 ((wrap .i64 (Int.fdiv (wrap .u64 (wrap .i64 (a1+b3))) (2^(min (toNat 1) (IntKind.bits .u64)))))+m2))-start46))))) (some false)).bind fun (v47:Bool)=>
    (cond v47
      ((gk fu start46 m2 (wrap .i64 ((wrap .i64 ((wrap .i64 (Int.fdiv (wrap .u64 (wrap .i64 (a1+b3))) (2^(min (toNat 1) (IntKind.bits .u64)))))+m2))-start46)) m4).bind fun (r48:List af)=>
       bif Nat.beq (List.length r48) (List.length m4) then
       some r48
       else none)
      (some m4)).bind fun (m49:List af)=>
    (cond (decide (a1<start46)) (some (decide (start46<(wrap .i64 (Int.fdiv (wrap .u64 (wrap .i64 (a1+b3))) (2^(min (toNat 1) (IntKind.bits .u64)))))))) (some false)).bind fun (v50:Bool)=>
    (cond v50
      ((self a1 start46 (wrap .i64 (Int.fdiv (wrap .u64 (wrap .i64 (a1+b3))) (2^(min (toNat 1) (IntKind.bits .u64))))) m49).bind fun (r51:List af)=>
       bif Nat.beq (List.length r51) (List.length m49) then
       some r51
       else none)
      (some m49)).bind fun (m52:List af)=>
    (cond (decide ((wrap .i64 (Int.fdiv (wrap .u64 (wrap .i64 (a1+b3))) (2^(min (toNat 1) (IntKind.bits .u64)))))<(wrap .i64 ((wrap .i64 ((wrap .i64 (Int.fdiv (wrap .u64 (wrap .i64 (a1+b3))) (2^(min (toNat 1) (IntKind.bits .u64)))))+m2))-start46)))) (some (decide ((wrap .i64 ((wrap .i64 ((wrap .i64 (Int.fdiv (wrap .u64 (wrap .i64 (a1+b3))) (2^(min (toNat 1) (IntKind.bits .u64)))))+m2))-start46))<b3))) (some false)).bind fun (v53:Bool)=>
    (cond v53
      ((self (wrap .i64 (Int.fdiv (wrap .u64 (wrap .i64 (a1+b3))) (2^(min (toNat 1) (IntKind.bits .u64))))) (wrap .i64 ((wrap .i64 ((wrap .i64 (Int.fdiv (wrap .u64 (wrap .i64 (a1+b3))) (2^(min (toNat 1) (IntKind.bits .u64)))))+m2))-start46)) b3 m52).bind fun (r55:List af)=>
       bif Nat.beq (List.length r55) (List.length m52) then
       some r55
       else none)
      (some m52)).bind fun (m56:List af)=>
    some m56))
def cD:Nat→Int→Int→Int→(List af)→Option (List af)
 | 0=>fun _ _ _ _=>none
 | fu+1=>mV (cD fu) (fu+1)
def iU (fu:Nat) (n1:Int):Int×Int×(List af)→Option ((Int×Int×(List af))⊕(Int×(List af))):=fun (a3,b4,m5)=>
 cond (decide (b4≤n1))
  ((fp fu a3 b4 m5).bind fun (r6:List af)=>
   bif Nat.beq (List.length r6) (List.length m5) then
   some (.inl (b4,wrap .i64 (b4+20),r6))
   else none)
  (some (.inr (a3,m5)))
def iT (fu:Nat) (n1:Int) (blockSize10:Int):Int×Int×(List af)→Option ((Int×Int×(List af))⊕(Int×(List af))):=fun (a12,b13,m14)=>
 cond (decide (b13≤n1))
  ((cD fu a12 (wrap .i64 (a12+blockSize10)) b13 m14).bind fun (r15:List af)=>
   bif Nat.beq (List.length r15) (List.length m14) then
   some (.inl (b13,wrap .i64 (b13+(wrap .i64 (2*blockSize10))),r15))
   else none)
  (some (.inr (a12,m14)))
def iS (fu:Nat) (n1:Int):Int×(List af)→Option ((Int×(List af))⊕(List af)):=fun (blockSize10,m11)=>
 cond (decide (blockSize10<n1))
  ((aB (iT fu n1 blockSize10) fu (0,wrap .i64 (2*blockSize10),m11)).bind fun ((a16,m17):Int×(List af))=>
   (cond (decide ((wrap .i64 (a16+blockSize10))<n1))
     ((cD fu a16 (wrap .i64 (a16+blockSize10)) n1 m17).bind fun (r18:List af)=>
     bif Nat.beq (List.length r18) (List.length m17) then
     some r18
     else none)
     (some m17)).bind fun (m19:List af)=>
   some (.inl (wrap .i64 (blockSize10*2),m19)))
  (some (.inr m11))
def lH (fu:Nat) (n1:Int) (m2:List af):Option (List af):=
 (aB (iU fu n1) fu (0,20,m2)).bind fun ((a7,m8):Int×(List af))=>
 (fp fu a7 n1 m8).bind fun (r9:List af)=>
 bif Nat.beq (List.length r9) (List.length m8) then
 (aB (iS fu n1) fu (20,r9)).bind fun (m20:List af)=>
 some m20
 else none
def jt (fu:Nat) (m1:List af):Option (List af):=
 (lH fu (m1.length:Int) m1).bind fun (r2:List af)=>
 bif Nat.beq (List.length r2) (List.length m1) then
 some r2
 else none
def uN (fu:Nat) (s1:List Int) (s2:List Int):Int→Option (Int⊕(Ex Unit Bool)):=fun v3=>
 cond (decide (v3<(s1.length:Int)))
  ((idx s1 v3).bind fun x4=>
   (idx s2 v3).bind fun x5=>
   cond (x4 !=x5)
    (some (.inr (.ret false)))
    (some (.inl (wrap .i64 (v3+1)))))
  (some (.inr (.dW ())))
def mW (fu:Nat) (s1:List Int) (s2:List Int):Option Bool:=
 cond ((s1.length:Int) !=(s2.length:Int))
  (some false)
  (eU (fun r=>r) (aB (uN fu s1 s2) fu 0:Option (Ex Unit Bool)) fun (_:Unit)=>
   some true)
def nD (fu:Nat) (s1:Int) (s2:Int) (m3:List af):Option ((List af)×(List af)):=
 sv (((toNat s2):Nat):Int) (some (m3,([]:List af))) ((bo ((toNat s1)+(toNat s2)≤m3.length)).bind fun _=>
 (bo (([]:List af).length+((m3.drop (toNat s1)).take (toNat s2)).length≤maxLen∧(([]:List af).length+((m3.drop (toNat s1)).take (toNat s2)).length)*64≤140737488355328)).bind fun _=>
 some (m3,([]:List af)++((m3.drop (toNat s1)).take (toNat s2))))
def jJ (fu:Nat) (a1:bK) (x2:List Int) (m3:List (List Int)):Option (Bool×Int×Int×(List (List Int))):=
 (po fu a1.At x2).bind fun (r4:Int)=>
 (cond (decide (r4<0)) (some true) ((bo ((0:Int)≤a1.Array∧a1.Array<(m3.length:Int))).bind fun _=>
  (m3[a1.Array.toNat]?).bind fun x5=>
  some (decide (r4≥((List.length x5:Nat):Int))))).bind fun (v6:Bool)=>
 cond v6
  (some (true,0,0,m3))
  ((bo ((0:Int)≤a1.Array∧a1.Array<(m3.length:Int))).bind fun _=>
   (m3[a1.Array.toNat]?).bind fun x7=>
   (bo ((0:Int)≤r4∧r4<((List.length x7:Nat):Int))).bind fun _=>
   some (false,((a1.Array.toNat:Nat):Int),((r4.toNat:Nat):Int),m3))
def kN (fu:Nat) (a1:bK) (x2:List Int) (m3:List (List Int)):Option (Int×(List (List Int))):=
 (jJ fu a1 x2 m3).bind fun ((r4,r5,r6,r7):Bool×Int×Int×(List (List Int)))=>
 bif Nat.beq (List.length r7) (List.length m3) then
 cond (!r4)
  ((bo (r4=false)).bind fun _=>
   (r7[(toNat r5)]?).bind fun x8=>
   (x8[(toNat r6)]?).bind fun x9=>
   some (x9,r7))
  (some (0,r7))
 else none
def gE (fu:Nat) (s1:c9) (x2:List Int):Int×(List (List Int))×(List Int)→Option ((Int×(List (List Int))×(List Int))⊕((List (List Int))×(List Int))):=fun (v4,m5,m6)=>
 cond (decide (v4<(s1.de.length:Int)))
  ((idx s1.de v4).bind fun x7=>
   (kN fu x7 x2 m5).bind fun ((r8,r9):Int×(List (List Int)))=>
   bif Nat.beq (List.length r9) (List.length m5) then
   (idx m6 v4).bind fun x10=>
   some (.inl (wrap .i64 (v4+1),r9,m6.set v4.toNat r8))
   else none)
  (some (.inr (m5,m6)))
def lk (fu:Nat) (s1:c9) (x2:List Int) (m3:List (List Int)):Option (List (List Int)):=
 (bo ((0:Int)≤3∧3≤3∧((8:Nat):Int)*3≤281474976710656∧3≤9223372036854775807)).bind fun _=>
 (aB (gE fu s1 x2) fu (0,m3,List.replicate (toNat 3) (0:Int))).bind fun ((m11,m12):(List (List Int))×(List Int))=>
 (jJ fu s1.cg x2 m11).bind fun ((r13,r14,r15,r16):Bool×Int×Int×(List (List Int)))=>
 bif Nat.beq (List.length r16) (List.length m11) then
 cond r13
  (some r16)
  ((cond (s1.Do==1)
     ((bo (r13=false)).bind fun _=>
     (r16[(toNat r14)]?).bind fun x17=>
     (bo ((toNat r15)<x17.length)).bind fun _=>
     some (r16.set (toNat r14) (x17.set (toNat r15) s1.Value)))
     ((cond (s1.Do==2)
       ((idx m12 0).bind fun x18=>
        (bo (r13=false)).bind fun _=>
        (r16[(toNat r14)]?).bind fun x19=>
        (bo ((toNat r15)<x19.length)).bind fun _=>
        some (r16.set (toNat r14) (x19.set (toNat r15) x18)))
       ((cond (s1.Do==3)
          ((idx m12 0).bind fun x20=>
          (idx m12 1).bind fun x21=>
          (bo (r13=false)).bind fun _=>
          (r16[(toNat r14)]?).bind fun x22=>
          (bo ((toNat r15)<x22.length)).bind fun _=>
          some (r16.set (toNat r14) (x22.set (toNat r15) (wrap .i64 (x20+x21)))))
          ((cond (s1.Do==4)
            ((idx m12 0).bind fun x23=>
             (idx m12 1).bind fun x24=>
             (bo (r13=false)).bind fun _=>
             (r16[(toNat r14)]?).bind fun x25=>
             (bo ((toNat r15)<x25.length)).bind fun _=>
             some (r16.set (toNat r14) (x25.set (toNat r15) (wrap .i64 (x23-x24)))))
            ((cond (s1.Do==5)
               ((idx m12 0).bind fun x26=>
               (idx m12 1).bind fun x27=>
               (bo (r13=false)).bind fun _=>
               (r16[(toNat r14)]?).bind fun x28=>
               (bo ((toNat r15)<x28.length)).bind fun _=>
               some (r16.set (toNat r14) (x28.set (toNat r15) (wrap .i64 (x26*x27)))))
               ((cond (s1.Do==6)
                 ((idx m12 0).bind fun x29=>
                  (idx m12 1).bind fun x30=>
                  (bo (r13=false)).bind fun _=>
                  (r16[(toNat r14)]?).bind fun x31=>
                  (bo ((toNat r15)<x31.length)).bind fun _=>
                  some (r16.set (toNat r14) (x31.set (toNat r15) (if x30>x29 then x30 else x29))))
                 ((cond (s1.Do==7)
                    ((bo (r13=false)).bind fun _=>
                    (r16[(toNat r14)]?).bind fun x32=>
                    (bo ((toNat r15)<x32.length)).bind fun _=>
                    (idx m12 0).bind fun x33=>
                    (idx m12 1).bind fun x34=>
                    (cond (decide (x33<x34))
                      ((bo (r13=false)).bind fun _=>
                       ((r16.set (toNat r14) (x32.set (toNat r15) 0))[(toNat r14)]?).bind fun x35=>
                       (bo ((toNat r15)<x35.length)).bind fun _=>
                       some ((r16.set (toNat r14) (x32.set (toNat r15) 0)).set (toNat r14) (x35.set (toNat r15) 1)))
                      (some (r16.set (toNat r14) (x32.set (toNat r15) 0)))).bind fun (m36:List (List Int))=>
                    some m36)
                    ((cond (s1.Do==8)
                      ((idx m12 2).bind fun x37=>
                       (bo (r13=false)).bind fun _=>
                       (r16[(toNat r14)]?).bind fun x38=>
                       (bo ((toNat r15)<x38.length)).bind fun _=>
                       (idx m12 0).bind fun x39=>
                       (cond (x39 !=0)
                         ((idx m12 1).bind fun x40=>
                         (bo (r13=false)).bind fun _=>
                         ((r16.set (toNat r14) (x38.set (toNat r15) x37))[(toNat r14)]?).bind fun x41=>
                         (bo ((toNat r15)<x41.length)).bind fun _=>
                         some ((r16.set (toNat r14) (x38.set (toNat r15) x37)).set (toNat r14) (x41.set (toNat r15) x40)))
                         (some (r16.set (toNat r14) (x38.set (toNat r15) x37)))).bind fun (m42:List (List Int))=>
                       some m42)
                      ((cond (s1.Do==9)
                         ((bo (r13=false)).bind fun _=>
                         (idx m12 0).bind fun x43=>
                         (r16[(toNat r14)]?).bind fun x44=>
                         (x44[(toNat r15)]?).bind fun x45=>
                         (bo (r13=false)).bind fun _=>
                         (r16[(toNat r14)]?).bind fun x46=>
                         (bo ((toNat r15)<x46.length)).bind fun _=>
                         some (r16.set (toNat r14) (x46.set (toNat r15) (wrap .i64 (x45+x43)))))
                         ((bo (r13=false)).bind fun _=>
                         (idx m12 0).bind fun x47=>
                         (idx m12 1).bind fun x48=>
                         (r16[(toNat r14)]?).bind fun x49=>
                         (x49[(toNat r15)]?).bind fun x50=>
                         (bo (r13=false)).bind fun _=>
                         (r16[(toNat r14)]?).bind fun x51=>
                         (bo ((toNat r15)<x51.length)).bind fun _=>
                         some (r16.set (toNat r14) (x51.set (toNat r15) (wrap .i64 (x50+(wrap .i64 (x47*x48)))))))).bind fun (m52:List (List Int))=>
                       some m52)).bind fun (m53:List (List Int))=>
                    some m53)).bind fun (m54:List (List Int))=>
                  some m54)).bind fun (m55:List (List Int))=>
               some m55)).bind fun (m56:List (List Int))=>
             some m56)).bind fun (m57:List (List Int))=>
          some m57)).bind fun (m58:List (List Int))=>
        some m58)).bind fun (m59:List (List Int))=>
     some m59)).bind fun (m60:List (List Int))=>
   some m60)
 else none
def mD (fu:Nat) (s1:Int) (s2:Int) (i3:Int) (j4:Int) (m5:List af):Option (Int×Int×(List af)):=
 (bo ((0:Int)≤i3∧i3≤j4∧j4≤(((toNat s2):Nat):Int)∧(((toNat s2):Nat):Int)≤(((toNat s2):Nat):Int))).bind fun _=>
 cond (i3==j4)
  (some ((((toNat s1):Nat):Int),(((toNat s2):Nat):Int),m5))
  ((bo ((0:Int)≤i3∧i3≤(((toNat s2):Nat):Int))).bind fun _=>
   (bo ((0:Int)≤j4∧j4≤(((toNat s2):Nat):Int))).bind fun _=>
   (bo ((toNat s1)=0∧(toNat i3)+((toNat s2)-toNat j4)≤m5.length∧((toNat s1)+toNat j4)+((toNat s2)-toNat j4)≤m5.length)).bind fun _=>
   (bo ((0:Int)≤((((toNat i3)+((toNat s2)-toNat j4)):Nat):Int)∧((((toNat i3)+((toNat s2)-toNat j4)):Nat):Int)≤(((toNat s2):Nat):Int)∧0+toNat (((toNat s2):Nat):Int)≤(iJ m5 ((List.drop ((toNat s1)+toNat j4) m5).take ((toNat s2)-toNat j4)) (toNat i3) ((toNat s2)-toNat j4)).length)).bind fun _=>
   (bo ((0+toNat ((((toNat i3)+((toNat s2)-toNat j4)):Nat):Int))+(toNat (((toNat s2):Nat):Int)-toNat ((((toNat i3)+((toNat s2)-toNat j4)):Nat):Int))≤(iJ m5 ((List.drop ((toNat s1)+toNat j4) m5).take ((toNat s2)-toNat j4)) (toNat i3) ((toNat s2)-toNat j4)).length)).bind fun _=>
   some (((0:Nat):Int),((((toNat i3)+((toNat s2)-toNat j4)):Nat):Int),iJ (iJ m5 ((List.drop ((toNat s1)+toNat j4) m5).take ((toNat s2)-toNat j4)) (toNat i3) ((toNat s2)-toNat j4)) (List.replicate (toNat (((toNat s2):Nat):Int)-toNat ((((toNat i3)+((toNat s2)-toNat j4)):Nat):Int)) (⟨(⟨0,([]:List Int)⟩:bE),0,([]:List Int)⟩:af)) (0+toNat ((((toNat i3)+((toNat s2)-toNat j4)):Nat):Int)) (toNat (((toNat s2):Nat):Int)-toNat ((((toNat i3)+((toNat s2)-toNat j4)):Nat):Int))))
def oI (fu:Nat) (s1:af) (m2:Int) (m3:Int) (m4:List af):Option (Bool×Int×Int×(List af)):=
 (bo ((0:Int)≤0∧0<(((toNat m3):Nat):Int))).bind fun _=>
 (m4[((toNat m2)+(0:Int).toNat)]?).bind fun x5=>
 (m4[((toNat m2)+(0:Int).toNat)]?).bind fun x6=>
 (mW fu s1.time x6.time).bind fun (r7:Bool)=>
 some ((!r7),(((toNat m2):Nat):Int),(((toNat m3):Nat):Int),m4)
def ic (fu:Nat) (s2:Int):Int×Int×Int×Int×Int×(List af)→Option ((Int×Int×Int×Int×Int×(List af))⊕(Ex (Int×Int×(List af)) (Int×(List af)×Int×Int))):=fun (v6,s7,s8,m9,m10,m11)=>
 cond (decide (v6<(((toNat s2):Nat):Int)))
  ((bo ((0:Int)≤v6∧v6<(((toNat s8):Nat):Int))).bind fun _=>
   (m11[((toNat s7)+v6.toNat)]?).bind fun x12=>
   (oI fu x12 (((toNat m9):Nat):Int) (((toNat m10):Nat):Int) m11).bind fun ((r13,r14,r15,r16):Bool×Int×Int×(List af))=>
   bif Nat.beq (List.length r16) (List.length m11) then
   cond r13
    (some (.inr (.ret (v6,r16,(((toNat r14):Nat):Int),(((toNat r15):Nat):Int)))))
    (some (.inl (wrap .i64 (v6+1),(((toNat s7):Nat):Int),(((toNat s8):Nat):Int),(((toNat r14):Nat):Int),(((toNat r15):Nat):Int),r16)))
   else none)
  (some (.inr (.dW ((((toNat m9):Nat):Int),(((toNat m10):Nat):Int),m11))))
def kG (fu:Nat) (s1:Int) (s2:Int) (m3:List af) (m4:Int) (m5:Int):Option (Int×(List af)×Int×Int):=
 eU (fun r=>r) (aB (ic fu s2) fu (0,(((toNat s1):Nat):Int),(((toNat s2):Nat):Int),(((toNat m4):Nat):Int),(((toNat m5):Nat):Int),m3):Option (Ex (Int×Int×(List af)) (Int×(List af)×Int×Int))) fun ((m17,m18,m19):Int×Int×(List af))=>
 some ((-1),m19,(((toNat m17):Nat):Int),(((toNat m18):Nat):Int))
def lh (fu:Nat) (n1:aM) (mix4:List Int):Int×Int×Int×(List (List Int))×(List af)→Option ((Int×Int×Int×(List (List Int))×(List af))⊕(Int×(List (List Int))×(List af))):=fun (turn22,now23,now24,m25,m26)=>
 cond (decide ((((toNat now24):Nat):Int)>0))
  ((cond (decide ((mix4.length:Int)>0))
     ((bo ((mix4.length:Int)≠0)).bind fun _=>
     (idx mix4 (Int.tmod turn22 (mix4.length:Int))).bind fun x27=>
     (bo ((((toNat now24):Nat):Int)≠0)).bind fun _=>
     (bo ((((toNat now24):Nat):Int)≠0)).bind fun _=>
     some (Int.tmod (wrap .i64 ((Int.tmod x27 (((toNat now24):Nat):Int))+(((toNat now24):Nat):Int))) (((toNat now24):Nat):Int),wrap .i64 (turn22+1)))
     (some (0,turn22))).bind fun ((i28,turn29):Int×Int)=>
   (bo ((0:Int)≤i28∧i28<(((toNat now24):Nat):Int))).bind fun _=>
   (m26[((toNat now23)+i28.toNat)]?).bind fun x30=>
   (m26[((toNat now23)+i28.toNat)]?).bind fun x31=>
   (idx n1.bC x31.aS.Stmt).bind fun x32=>
   (bo ((0:Int)≤i28∧i28<(((toNat now24):Nat):Int))).bind fun _=>
   (m26[((toNat now23)+i28.toNat)]?).bind fun x33=>
   (m26[((toNat now23)+i28.toNat)]?).bind fun x34=>
   (lk fu x32 x34.aS.At m25).bind fun (r35:List (List Int))=>
   bif Nat.beq (List.length r35) (List.length m25) then
   (mD fu (((toNat now23):Nat):Int) (((toNat now24):Nat):Int) i28 (wrap .i64 (i28+1)) m26).bind fun ((r36,r37,r38):Int×Int×(List af))=>
   bif Nat.beq (List.length r38) (List.length m26) then
   some (.inl (turn29,(((toNat r36):Nat):Int),(((toNat r37):Nat):Int),r35,r38))
   else none
   else none)
  (some (.inr (turn22,m25,m26)))
def pU (fu:Nat) (n1:aM) (mix4:List Int):Int×(List af)×(List (List Int))×Int×Int→Option ((Int×(List af)×(List (List Int))×Int×Int)⊕((List af)×(List (List Int))×Int×Int)):=fun (turn10,m11,m12,m13,m14)=>
 cond (decide ((((toNat m14):Nat):Int)>0))
  ((kG fu (((toNat m13):Nat):Int) (((toNat m14):Nat):Int) m11 (((toNat m13):Nat):Int) (((toNat m14):Nat):Int)).bind fun ((r15,r16,r17,r18):Int×(List af)×Int×Int)=>
   bif Nat.beq (List.length r16) (List.length m11) then
   (cond (decide (r15<0))
     (some (((toNat r18):Nat):Int))
     (some r15)).bind fun (k19:Int)=>
   (bo ((0:Int)≤k19∧k19≤(((toNat r18):Nat):Int))).bind fun _=>
   (nD fu (((toNat r17):Nat):Int) (((toNat k19):Nat):Int) r16).bind fun ((r20,r21):(List af)×(List af))=>
   bif Nat.beq (List.length r20) (List.length r16) then
   (aB (lh fu n1 mix4) fu (turn10,((0:Nat):Int),((r21.length:Nat):Int),m12,r21)).bind fun ((turn39,m40,m41):Int×(List (List Int))×(List af))=>
   (bo ((0:Int)≤k19∧k19≤(((toNat r18):Nat):Int))).bind fun _=>
   some (.inl (turn39,r20,m40,((((toNat r17)+toNat k19):Nat):Int),((((toNat r18)-toNat k19):Nat):Int)))
   else none
   else none)
  (some (.inr (m11,m12,(((toNat m13):Nat):Int),(((toNat m14):Nat):Int))))
def jS (fu:Nat) (n1:aM) (times2:List (List aO)) (mem3:List (List Int)) (mix4:List Int):Option ((List (List Int))×Int):=
 (iA fu n1 times2).bind fun ((r5,r6):Int×(List af))=>
 cond (r5 !=0)
  (some (([]:List (List Int)),r5))
  ((gP fu n1 mem3).bind fun ((r7,r8):Int×(List (List Int)))=>
   cond (r7 !=0)
    (some (([]:List (List Int)),r7))
    ((jt fu r6).bind fun (r9:List af)=>
    bif Nat.beq (List.length r9) (List.length r6) then
    (aB (pU fu n1 mix4) fu (0,r9,r8,((0:Nat):Int),((r9.length:Nat):Int))).bind fun ((m42,m43,m44,m45):(List af)×(List (List Int))×Int×Int)=>
    some (m43,0)
    else none))
def jo (fu:Nat):Option Bool:=
 (jS fu (⟨[1],[(⟨(⟨([]:List Int),([]:List aO)⟩:bu),1,7,(⟨0,(⟨([]:List Int),0⟩:aO)⟩:bK),([]:List bK)⟩:c9)]⟩:aM) [([]:List aO)] [[0]] ([]:List Int)).bind fun ((r1,r2):(List (List Int))×Int)=>
 (cond (r2==0) (cond ((r1.length:Int)==1) ((idx r1 0).bind fun x3=>
  cond ((x3.length:Int)==1) ((idx r1 0).bind fun x4=>
  (idx x4 0).bind fun x5=>
  some (x5==7)) (some false)) (some false)) (some false)).bind fun (v6:Bool)=>
 some v6
def li (fu:Nat) (x4:c9):Int×(List aO)→Option ((Int×(List aO))⊕(List aO)):=fun (v5,m6)=>
 cond (decide (v5<(x4.ba.aU.length:Int)))
  ((bo ((0:Int)≤(x4.ba.aU.length:Int)∧(x4.ba.aU.length:Int)≤(x4.ba.aU.length:Int)∧((8:Nat):Int)*(x4.ba.aU.length:Int)≤281474976710656∧(x4.ba.aU.length:Int)≤9223372036854775807)).bind fun _=>
   (idx (List.replicate (toNat (x4.ba.aU.length:Int)) (0:Int)) v5).bind fun x7=>
   (bo (m6.length+[(⟨(List.replicate (toNat (x4.ba.aU.length:Int)) (0:Int)).set v5.toNat 1,0⟩:aO)].length≤maxLen∧(m6.length+[(⟨(List.replicate (toNat (x4.ba.aU.length:Int)) (0:Int)).set v5.toNat 1,0⟩:aO)].length)*32≤140737488355328)).bind fun _=>
   some (.inl (wrap .i64 (v5+1),m6++[(⟨(List.replicate (toNat (x4.ba.aU.length:Int)) (0:Int)).set v5.toNat 1,0⟩:aO)])))
  (some (.inr m6))
def nJ (fu:Nat) (n1:aM):Int×(List (List aO))→Option ((Int×(List (List aO)))⊕(List (List aO))):=fun (v2,m3)=>
 cond (decide (v2<(n1.bC.length:Int)))
  ((idx n1.bC v2).bind fun x4=>
   (bo ((0:Int)≤(x4.ba.aU.length:Int)∧(x4.ba.aU.length:Int)≤(x4.ba.aU.length:Int)∧((8:Nat):Int)*(x4.ba.aU.length:Int)≤281474976710656∧(x4.ba.aU.length:Int)≤9223372036854775807)).bind fun _=>
   (aB (li fu x4) fu (0,[(⟨List.replicate (toNat (x4.ba.aU.length:Int)) (0:Int),v2⟩:aO)])).bind fun (m8:List aO)=>
   (bo (m3.length+[m8].length≤maxLen∧(m3.length+[m8].length)*24≤140737488355328)).bind fun _=>
   some (.inl (wrap .i64 (v2+1),m3++[m8])))
  (some (.inr m3))
def rC (fu:Nat) (n1:aM):Option (List (List aO)):=
 (aB (nJ fu n1) fu (0,([]:List (List aO)))).bind fun (m9:List (List aO))=>
 some m9
def mY (fu:Nat) (n1:aM) (a2:bK) (x3:List Int):Option (g7×Bool):=
 (po fu a2.At x3).bind fun (r4:Int)=>
 (cond (decide (r4≥0)) ((idx n1.cC a2.Array).bind fun x5=>
  some (decide (r4<x5),a2.Array,r4)) (some (false,a2.Array,r4))).bind fun ((v6,m7,m8):Bool×Int×Int)=>
 some ((⟨m7,m8⟩:g7),v6)
def b5 (fu:Nat) (c1:g7) (m2:bH):Option (Bool×Int×Int×bH):=
 (cond (!(!(uV m2.es c1.array c1.at_)))
   ((bo (m2.n+1≤maxLen∧uV m2.es c1.array c1.at_=true)).bind fun _=>
    some (false,((m2.n:Nat):Int),((0:Nat):Int),ze m2 c1.array c1.at_ 3))
   (some ((uV m2.es c1.array c1.at_),(((JF m2.es c1.array c1.at_):Nat):Int),((0:Nat):Int),m2))).bind fun ((t3,t4,t5,m6):Bool×Int×Int×bH)=>
 some (t3,(((toNat t4):Nat):Int),(((toNat t5):Nat):Int),m6)
def gV (fu:Nat) (a1:af) (b2:af):Option Bool:=
 (k6 fu b2.time a1.time).bind fun (r3:Int)=>
 some (decide (r3<0))
end F
namespace Gn
open F
def GS (bd:af→af→Option Bool) (fu:Nat) (k1:Int) (m2:Int) (m3:List af) (m4:Int) (m5:List Int) (m6:Int) (m7:List Int):Option (Int×(List af)×Int×(List Int)×Int×(List Int)):=
 (cond (decide (m2<0)) ((idx m3 k1).bind fun x10=>
  (bd x10 (⟨(⟨m4,m5⟩:bE),m6,m7⟩:af)).bind fun (r11:Bool)=>
  some r11) (cond (decide (k1<m2)) ((idx m3 k1).bind fun x8=>
  (bd x8 (⟨(⟨m4,m5⟩:bE),m6,m7⟩:af)).bind fun (r9:Bool)=>
  some r9) (some false))).bind fun (v12:Bool)=>
 (cond v12
   (some k1)
   (some m2)).bind fun (m13:Int)=>
 some (m13,m3,m4,m5,m6,m7)
def tI (bd:af→af→Option Bool) (fu:Nat) (l1:Int) (m3:Int) (m4:Int) (m5:Int) (m6:Int) (m7:bH) (v14:Int):Int×Int×(List af)×Int×(List Int)×Int×(List Int)→Option ((Int×Int×(List af)×Int×(List Int)×Int×(List Int))⊕(Int×(List af)×Int×(List Int)×Int×(List Int))):=fun (v21,m22,m23,m24,m25,m26,m27)=>
 cond (decide (v21<(((([((toNat m3),(toNat m4)),((toNat m5),(toNat m6))]:List (Nat×Nat)).getD ((toNat l1)+v14.toNat) (0,0)).2:Nat):Int)))
  ((bo ((0:Int)≤v21∧v21<(((([((toNat m3),(toNat m4)),((toNat m5),(toNat m6))]:List (Nat×Nat)).getD ((toNat l1)+v14.toNat) (0,0)).2:Nat):Int))).bind fun _=>
   (nM m7.es ((([((toNat m3),(toNat m4)),((toNat m5),(toNat m6))]:List (Nat×Nat)).getD ((toNat l1)+v14.toNat) (0,0)).1) v21.toNat).bind fun x28=>
   (GS bd fu x28 m22 m23 m24 m25 m26 m27).bind fun ((r29,r30,r31,r32,r33,r34):Int×(List af)×Int×(List Int)×Int×(List Int))=>
   some (.inl (wrap .i64 (v21+1),r29,r30,r31,r32,r33,r34)))
  (some (.inr (m22,m23,m24,m25,m26,m27)))
def Gl (bd:af→af→Option Bool) (fu:Nat) (l1:Int) (l2:Int) (m3:Int) (m4:Int) (m5:Int) (m6:Int) (m7:bH):Int×Int×(List af)×Int×(List Int)×Int×(List Int)→Option ((Int×Int×(List af)×Int×(List Int)×Int×(List Int))⊕(Int×(List af)×Int×(List Int)×Int×(List Int))):=fun (v14,m15,m16,m17,m18,m19,m20)=>
 cond (decide (v14<(((toNat l2):Nat):Int)))
  ((bo ((0:Int)≤v14∧v14<(((toNat l2):Nat):Int))).bind fun _=>
   (bo (((toNat l1)+v14.toNat)<([((toNat m3),(toNat m4)),((toNat m5),(toNat m6))]:List (Nat×Nat)).length)).bind fun _=>
   (aB (tI bd fu l1 m3 m4 m5 m6 m7 v14) fu (0,m15,m16,m17,m18,m19,m20)).bind fun ((m35,m36,m37,m38,m39,m40):Int×(List af)×Int×(List Int)×Int×(List Int))=>
   some (.inl (wrap .i64 (v14+1),m35,m36,m37,m38,m39,m40)))
  (some (.inr (m15,m16,m17,m18,m19,m20)))
def two (bd:af→af→Option Bool) (fu:Nat) (l1:Int) (l2:Int) (m3:Int) (m4:Int) (m5:Int) (m6:Int) (m7:bH) (m8:Int) (m9:List af) (m10:Int) (m11:List Int) (m12:Int) (m13:List Int):Option (bH×Int×(List af)×Int×(List Int)×Int×(List Int)):=
 (aB (Gl bd fu l1 l2 m3 m4 m5 m6 m7) fu (0,m8,m9,m10,m11,m12,m13)).bind fun ((m41,m42,m43,m44,m45,m46):Int×(List af)×Int×(List Int)×Int×(List Int))=>
 some (m7,m41,m42,m43,m44,m45,m46)
def we (bd:af→af→Option Bool) (fu:Nat) (l1:Int) (m3:Int) (m4:Int) (m5:bH) (v12:Int):Int×Int×(List af)×Int×(List Int)×Int×(List Int)→Option ((Int×Int×(List af)×Int×(List Int)×Int×(List Int))⊕(Int×(List af)×Int×(List Int)×Int×(List Int))):=fun (v19,m20,m21,m22,m23,m24,m25)=>
 cond (decide (v19<(((([((toNat m3),(toNat m4))]:List (Nat×Nat)).getD ((toNat l1)+v12.toNat) (0,0)).2:Nat):Int)))
  ((bo ((0:Int)≤v19∧v19<(((([((toNat m3),(toNat m4))]:List (Nat×Nat)).getD ((toNat l1)+v12.toNat) (0,0)).2:Nat):Int))).bind fun _=>
   (nM m5.es ((([((toNat m3),(toNat m4))]:List (Nat×Nat)).getD ((toNat l1)+v12.toNat) (0,0)).1) v19.toNat).bind fun x26=>
   (GS bd fu x26 m20 m21 m22 m23 m24 m25).bind fun ((r27,r28,r29,r30,r31,r32):Int×(List af)×Int×(List Int)×Int×(List Int))=>
   some (.inl (wrap .i64 (v19+1),r27,r28,r29,r30,r31,r32)))
  (some (.inr (m20,m21,m22,m23,m24,m25)))
def Hn (bd:af→af→Option Bool) (fu:Nat) (l1:Int) (l2:Int) (m3:Int) (m4:Int) (m5:bH):Int×Int×(List af)×Int×(List Int)×Int×(List Int)→Option ((Int×Int×(List af)×Int×(List Int)×Int×(List Int))⊕(Int×(List af)×Int×(List Int)×Int×(List Int))):=fun (v12,m13,m14,m15,m16,m17,m18)=>
 cond (decide (v12<(((toNat l2):Nat):Int)))
  ((bo ((0:Int)≤v12∧v12<(((toNat l2):Nat):Int))).bind fun _=>
   (bo (((toNat l1)+v12.toNat)<([((toNat m3),(toNat m4))]:List (Nat×Nat)).length)).bind fun _=>
   (aB (we bd fu l1 m3 m4 m5 v12) fu (0,m13,m14,m15,m16,m17,m18)).bind fun ((m33,m34,m35,m36,m37,m38):Int×(List af)×Int×(List Int)×Int×(List Int))=>
   some (.inl (wrap .i64 (v12+1),m33,m34,m35,m36,m37,m38)))
  (some (.inr (m13,m14,m15,m16,m17,m18)))
def one (bd:af→af→Option Bool) (fu:Nat) (l1:Int) (l2:Int) (m3:Int) (m4:Int) (m5:bH) (m6:Int) (m7:List af) (m8:Int) (m9:List Int) (m10:Int) (m11:List Int):Option (bH×Int×(List af)×Int×(List Int)×Int×(List Int)):=
 (aB (Hn bd fu l1 l2 m3 m4 m5) fu (0,m6,m7,m8,m9,m10,m11)).bind fun ((m39,m40,m41,m42,m43,m44):Int×(List af)×Int×(List Int)×Int×(List Int))=>
 some (m5,m39,m40,m41,m42,m43,m44)
def mX (bd:af→af→Option Bool) (fu:Nat) (n1:aM) (s2:af) (x10:c9) (r12:Bool):Int×bH×Int×(List af)×Int×(List Int)×Int×(List Int)×(List g7)→Option ((Int×bH×Int×(List af)×Int×(List Int)×Int×(List Int)×(List g7))⊕(bH×Int×(List af)×Int×(List Int)×Int×(List Int)×(List g7))):=fun (v56,m57,m58,m59,m60,m61,m62,m63,m64)=>
 cond (decide (v56<(x10.de.length:Int)))
  ((idx x10.de v56).bind fun x65=>
   (mY fu n1 x65 s2.aS.At).bind fun ((r66,r67):g7×Bool)=>
   (cond r67 (some r12) (some false)).bind fun (v68:Bool)=>
   (cond v68
     (((b5 fu r66 m57).bind fun ((r69,r70,r71,r72):Bool×Int×Int×bH)=>
      (bo (r69=false)).bind fun _=>
      ux ((iz r72.es (toNat r70) ((toNat r71)+0)).bind fun p73=>
      (b5 fu r66 r72).bind fun ((r74,r75,r76,r77):Bool×Int×Int×bH)=>
      (bo (r74=false)).bind fun _=>
      (iz r77.es (toNat r75) ((toNat r76)+1)).bind fun p78=>
      (two bd fu ((0:Nat):Int) ((2:Nat):Int) ((p73.1:Nat):Int) (((List.length p73.2):Nat):Int) ((p78.1:Nat):Int) (((List.length p78.2):Nat):Int) r77 m58 m59 m60 m61 m62 m63).bind fun ((r79,r80,r81,r82,r83,r84,r85):bH×Int×(List af)×Int×(List Int)×Int×(List Int))=>
      some (r79,r80,r81,r82,r83,r84,r85)) ((b5 fu r66 r72).bind fun ((r73,r74,r75,r76):Bool×Int×Int×bH)=>
      (bo (r73=false)).bind fun _=>
      ux ((iz r76.es (toNat r70) ((toNat r71)+0)).bind fun p77=>
      (iz r76.es (toNat r74) ((toNat r75)+1)).bind fun p78=>
      (two bd fu ((0:Nat):Int) ((2:Nat):Int) ((p77.1:Nat):Int) (((List.length p77.2):Nat):Int) ((p78.1:Nat):Int) (((List.length p78.2):Nat):Int) r76 m58 m59 m60 m61 m62 m63).bind fun ((r79,r80,r81,r82,r83,r84,r85):bH×Int×(List af)×Int×(List Int)×Int×(List Int))=>
      some (r79,r80,r81,r82,r83,r84,r85)) ((iz r76.es (toNat r74) ((toNat r75)+1)).bind fun p77=>
      (iz r76.es (toNat r70) ((toNat r71)+0)).bind fun p78=>
      (two bd fu ((0:Nat):Int) ((2:Nat):Int) ((p78.1:Nat):Int) (((List.length p78.2):Nat):Int) ((p77.1:Nat):Int) (((List.length p77.2):Nat):Int) r76 m58 m59 m60 m61 m62 m63).bind fun ((r79,r80,r81,r82,r83,r84,r85):bH×Int×(List af)×Int×(List Int)×Int×(List Int))=>
      some (r79,r80,r81,r82,r83,r84,r85)))).bind fun ((m86,m87,m88,m89,m90,m91,m92):bH×Int×(List af)×Int×(List Int)×Int×(List Int))=>
     (bo (m64.length+[r66].length≤maxLen∧(m64.length+[r66].length)*16≤140737488355328)).bind fun _=>
     some (m86,m87,m88,m89,m90,m91,m92,m64++[r66]))
     (some (m57,m58,m59,m60,m61,m62,m63,m64))).bind fun ((m93,m94,m95,m96,m97,m98,m99,m100):bH×Int×(List af)×Int×(List Int)×Int×(List Int)×(List g7))=>
   some (.inl (wrap .i64 (v56+1),m93,m94,m95,m96,m97,m98,m99,m100)))
  (some (.inr (m57,m58,m59,m60,m61,m62,m63,m64)))
def qJ (fu:Nat) (s2:af) (m108:List g7):Int×bH→Option ((Int×bH)⊕bH):=fun (v136,m137)=>
 cond (decide (v136<(m108.length:Int)))
  ((idx m108 v136).bind fun x138=>
   (ux ((b5 fu x138 m137).bind fun ((r139,r140,r141,r142):Bool×Int×Int×bH)=>
    ux ((b5 fu x138 r142).bind fun ((r143,r144,r145,r146):Bool×Int×Int×bH)=>
    (bo (r143=false)).bind fun _=>
    vK ((iz r146.es (toNat r144) ((toNat r145)+2)).bind fun p147=>
    (pX r146 p147.1 (List.length p147.2) s2.number 8).bind fun m148=>
    (bo (r139=false)).bind fun _=>
    (kf m148 (toNat r140) ((toNat r141)+2) r146.n ((List.length p147.2)+1)).bind fun m149=>
    some m149)) ((b5 fu x138 r142).bind fun ((r143,r144,r145,r146):Bool×Int×Int×bH)=>
    (bo (r143=false)).bind fun _=>
    (iz r146.es (toNat r144) ((toNat r145)+2)).bind fun p147=>
    (pX r146 p147.1 (List.length p147.2) s2.number 8).bind fun m148=>
    (bo (r139=false)).bind fun _=>
    (kf m148 (toNat r140) ((toNat r141)+2) r146.n ((List.length p147.2)+1)).bind fun m149=>
    some m149)) ((b5 fu x138 m137).bind fun ((r139,r140,r141,r142):Bool×Int×Int×bH)=>
    (b5 fu x138 r142).bind fun ((r143,r144,r145,r146):Bool×Int×Int×bH)=>
    (bo (r143=false)).bind fun _=>
    (iz r146.es (toNat r144) ((toNat r145)+2)).bind fun p147=>
    (pX r146 p147.1 (List.length p147.2) s2.number 8).bind fun m148=>
    (bo (r139=false)).bind fun _=>
    (kf m148 (toNat r140) ((toNat r141)+2) r146.n ((List.length p147.2)+1)).bind fun m149=>
    some m149)).bind fun (m150:bH)=>
   some (.inl (wrap .i64 (v136+1),m150)))
  (some (.inr m137))
def uQ (bd:af→af→Option Bool) (fu:Nat) (n1:aM) (s2:af) (m3:bH) (m4:Int) (m5:List af) (m6:Int) (m7:List Int) (m8:Int) (m9:List Int):Option (bH×Int×(List af)×Int×(List Int)×Int×(List Int)):=
 (idx n1.bC s2.aS.Stmt).bind fun x10=>
 (mY fu n1 x10.cg s2.aS.At).bind fun ((r11,r12):g7×Bool)=>
 (cond (x10.Do==9) (some true) (some (x10.Do==10))).bind fun (adds13:Bool)=>
 (cond r12
   ((b5 fu r11 m3).bind fun ((r14,r15,r16,r17):Bool×Int×Int×bH)=>
    ((bo (r14=false)).bind fun _=>
     (bo (r14=false)).bind fun _=>
     ux ((iz r17.es (toNat r15) ((toNat r16)+0)).bind fun p18=>
     (iz r17.es (toNat r15) ((toNat r16)+2)).bind fun p19=>
     (two bd fu ((0:Nat):Int) ((2:Nat):Int) ((p18.1:Nat):Int) (((List.length p18.2):Nat):Int) ((p19.1:Nat):Int) (((List.length p19.2):Nat):Int) r17 m4 m5 m6 m7 m8 m9).bind fun ((r20,r21,r22,r23,r24,r25,r26):bH×Int×(List af)×Int×(List Int)×Int×(List Int))=>
     some (r20,r21,r22,r23,r24,r25,r26)) ((iz r17.es (toNat r15) ((toNat r16)+2)).bind fun p18=>
     (iz r17.es (toNat r15) ((toNat r16)+0)).bind fun p19=>
     (two bd fu ((0:Nat):Int) ((2:Nat):Int) ((p19.1:Nat):Int) (((List.length p19.2):Nat):Int) ((p18.1:Nat):Int) (((List.length p18.2):Nat):Int) r17 m4 m5 m6 m7 m8 m9).bind fun ((r20,r21,r22,r23,r24,r25,r26):bH×Int×(List af)×Int×(List Int)×Int×(List Int))=>
     some (r20,r21,r22,r23,r24,r25,r26))).bind fun ((m27,m28,m29,m30,m31,m32,m33):bH×Int×(List af)×Int×(List Int)×Int×(List Int))=>
    (cond (!adds13)
      ((bo (r14=false)).bind fun _=>
      (iz m27.es (toNat r15) ((toNat r16)+1)).bind fun p34=>
      (one bd fu ((0:Nat):Int) ((1:Nat):Int) ((p34.1:Nat):Int) (((List.length p34.2):Nat):Int) m27 m28 m29 m30 m31 m32 m33).bind fun ((r35,r36,r37,r38,r39,r40,r41):bH×Int×(List af)×Int×(List Int)×Int×(List Int))=>
      some (r35,r36,r37,r38,r39,r40,r41))
      (some (m27,m28,m29,m30,m31,m32,m33))).bind fun ((m42,m43,m44,m45,m46,m47,m48):bH×Int×(List af)×Int×(List Int)×Int×(List Int))=>
    some (m42,m43,m44,m45,m46,m47,m48))
   (some (m3,m4,m5,m6,m7,m8,m9))).bind fun ((m49,m50,m51,m52,m53,m54,m55):bH×Int×(List af)×Int×(List Int)×Int×(List Int))=>
 (aB (mX bd fu n1 s2 x10 r12) fu (0,m49,m50,m51,m52,m53,m54,m55,([]:List g7))).bind fun ((m101,m102,m103,m104,m105,m106,m107,m108):bH×Int×(List af)×Int×(List Int)×Int×(List Int)×(List g7))=>
 (cond r12 (some adds13) (some false)).bind fun (v109:Bool)=>
 (cond v109
   ((ux ((b5 fu r11 m101).bind fun ((r110,r111,r112,r113):Bool×Int×Int×bH)=>
     ux ((b5 fu r11 r113).bind fun ((r114,r115,r116,r117):Bool×Int×Int×bH)=>
     (bo (r114=false)).bind fun _=>
     vK ((iz r117.es (toNat r115) ((toNat r116)+1)).bind fun p118=>
     (pX r117 p118.1 (List.length p118.2) s2.number 8).bind fun m119=>
     (bo (r110=false)).bind fun _=>
     (kf m119 (toNat r111) ((toNat r112)+1) r117.n ((List.length p118.2)+1)).bind fun m120=>
     some m120)) ((b5 fu r11 r113).bind fun ((r114,r115,r116,r117):Bool×Int×Int×bH)=>
     (bo (r114=false)).bind fun _=>
     (iz r117.es (toNat r115) ((toNat r116)+1)).bind fun p118=>
     (pX r117 p118.1 (List.length p118.2) s2.number 8).bind fun m119=>
     (bo (r110=false)).bind fun _=>
     (kf m119 (toNat r111) ((toNat r112)+1) r117.n ((List.length p118.2)+1)).bind fun m120=>
     some m120)) ((b5 fu r11 m101).bind fun ((r110,r111,r112,r113):Bool×Int×Int×bH)=>
     (b5 fu r11 r113).bind fun ((r114,r115,r116,r117):Bool×Int×Int×bH)=>
     (bo (r114=false)).bind fun _=>
     (iz r117.es (toNat r115) ((toNat r116)+1)).bind fun p118=>
     (pX r117 p118.1 (List.length p118.2) s2.number 8).bind fun m119=>
     (bo (r110=false)).bind fun _=>
     (kf m119 (toNat r111) ((toNat r112)+1) r117.n ((List.length p118.2)+1)).bind fun m120=>
     some m120)).bind fun (m121:bH)=>
    some m121)
   ((cond r12
      ((ux ((b5 fu r11 m101).bind fun ((r122,r123,r124,r125):Bool×Int×Int×bH)=>
       ux ((b5 fu r11 r125).bind fun ((r126,r127,r128,r129):Bool×Int×Int×bH)=>
       (bo (r126=false)).bind fun _=>
       vK ((iz r129.es (toNat r127) ((toNat r128)+0)).bind fun p130=>
       (pX r129 p130.1 (List.length p130.2) s2.number 8).bind fun m131=>
       (bo (r122=false)).bind fun _=>
       (kf m131 (toNat r123) ((toNat r124)+0) r129.n ((List.length p130.2)+1)).bind fun m132=>
       some m132)) ((b5 fu r11 r125).bind fun ((r126,r127,r128,r129):Bool×Int×Int×bH)=>
       (bo (r126=false)).bind fun _=>
       (iz r129.es (toNat r127) ((toNat r128)+0)).bind fun p130=>
       (pX r129 p130.1 (List.length p130.2) s2.number 8).bind fun m131=>
       (bo (r122=false)).bind fun _=>
       (kf m131 (toNat r123) ((toNat r124)+0) r129.n ((List.length p130.2)+1)).bind fun m132=>
       some m132)) ((b5 fu r11 m101).bind fun ((r122,r123,r124,r125):Bool×Int×Int×bH)=>
       (b5 fu r11 r125).bind fun ((r126,r127,r128,r129):Bool×Int×Int×bH)=>
       (bo (r126=false)).bind fun _=>
       (iz r129.es (toNat r127) ((toNat r128)+0)).bind fun p130=>
       (pX r129 p130.1 (List.length p130.2) s2.number 8).bind fun m131=>
       (bo (r122=false)).bind fun _=>
       (kf m131 (toNat r123) ((toNat r124)+0) r129.n ((List.length p130.2)+1)).bind fun m132=>
       some m132)).bind fun (m133:bH)=>
      some m133)
      (some m101)).bind fun (m134:bH)=>
    some m134)).bind fun (m135:bH)=>
 (aB (qJ fu s2 m108) fu (0,m135)).bind fun (m151:bH)=>
 some (m151,m102,m103,m104,m105,m106,m107)
def rR (bd:af→af→Option Bool) (fu:Nat) (n1:aM) (r4:List af):Int×bH×(List af)×Bool×Int×(List Int)×Int×(List Int)→Option ((Int×bH×(List af)×Bool×Int×(List Int)×Int×(List Int))⊕(Ex (bH×(List af)×Bool×Int×(List Int)×Int×(List Int)) (gC×Int))):=fun (v5,m6,m7,m8,m9,m10,m11,m12)=>
 cond (decide (v5<(r4.length:Int)))
  ((idx r4 v5).bind fun x13=>
   (uQ bd fu n1 (⟨(⟨x13.aS.Stmt,x13.aS.At⟩:bE),x13.number,x13.time⟩:af) m6 (-1) m7 x13.aS.Stmt x13.aS.At x13.number x13.time).bind fun ((r14,r15,r16,r17,r18,r19,r20):bH×Int×(List af)×Int×(List Int)×Int×(List Int))=>
   cond (decide (r15≥0))
    ((idx r16 r15).bind fun x21=>
    some (.inr (.ret ((⟨true,(⟨x21.aS.Stmt,x21.aS.At⟩:bE),(⟨r17,r18⟩:bE)⟩:gC),0))))
    (some (.inl (wrap .i64 (v5+1),r14,r16,m8,m9,m10,m11,m12))))
  (some (.inr (.dW (m6,m7,m8,m9,m10,m11,m12))))
def search (bd:af→af→Option Bool) (fu:Nat) (n1:aM) (times2:List (List aO)):Option (gC×Int):=
 (iA fu n1 times2).bind fun ((r3,r4):Int×(List af))=>
 cond (r3 !=0)
  (some ((⟨false,(⟨0,([]:List Int)⟩:bE),(⟨0,([]:List Int)⟩:bE)⟩:gC),r3))
  (eU (fun r=>r) (aB (rR bd fu n1 r4) fu (0,(⟨0,[],none⟩:bH),r4,false,0,([]:List Int),0,([]:List Int)):Option (Ex (bH×(List af)×Bool×Int×(List Int)×Int×(List Int)) (gC×Int))) fun ((m22,m23,m24,m25,m26,m27,m28):bH×(List af)×Bool×Int×(List Int)×Int×(List Int))=>
   some ((⟨false,(⟨0,([]:List Int)⟩:bE),(⟨0,([]:List Int)⟩:bE)⟩:gC),0))
end Gn
namespace F
def Bp (fu:Nat):=Gn.GS (gV fu) fu
def CH (fu:Nat):=Gn.two (gV fu) fu
def CG (fu:Nat):=Gn.one (gV fu) fu
def FA (fu:Nat):=Gn.uQ (gV fu) fu
def tR (fu:Nat):=Gn.search (gV fu) fu
def rD (fu:Nat) (n1:aM) (times2:List (List aO)):Option (gC×Int):=
 (tR fu n1 times2).bind fun ((r3,r4):gC×Int)=>
 some ((⟨r3.Any,(⟨r3.A.Stmt,r3.A.At⟩:bE),r3.B⟩:gC),r4)
def iG (fu:Nat) (a1:af) (b2:af):Option Bool:=
 (mW fu a1.time b2.time).bind fun (r3:Bool)=>
 some r3
def Bo (fu:Nat):=Gn.GS (iG fu) fu
def CF (fu:Nat):=Gn.two (iG fu) fu
def CE (fu:Nat):=Gn.one (iG fu) fu
def Fz (fu:Nat):=Gn.uQ (iG fu) fu
def qM (fu:Nat):=Gn.search (iG fu) fu
def sY (fu:Nat) (n1:aM) (times2:List (List aO)):Option (gC×Int):=
 (qM fu n1 times2).bind fun ((r3,r4):gC×Int)=>
 some ((⟨r3.Any,(⟨r3.A.Stmt,r3.A.At⟩:bE),r3.B⟩:gC),r4)
def pW (fu:Nat) (v1:List Int) (m2:List Int) (m3:List aO) (m4:Int) (m5:Int) (m6:Int) (m7:List Int) (m8:Int) (m9:List bK) (m10:List (List Int)):Option ((List Int)×(List aO)×Int×Int×Int×(List Int)×Int×(List bK)×(List (List Int))):=
 (lk fu (⟨(⟨m2,m3⟩:bu),m4,m5,(⟨m6,(⟨m7,m8⟩:aO)⟩:bK),m9⟩:c9) v1 m10).bind fun (r11:List (List Int))=>
 bif Nat.beq (List.length r11) (List.length m10) then
 some (m2,m3,m4,m5,m6,m7,m8,m9,r11)
 else none
def lN (self:bu→Int→(List Int)→(List Int)→(List aO)→Int→Int→Int→(List Int)→Int→(List bK)→(List (List Int))→Option (Bool×(List Int)×(List Int)×(List aO)×Int×Int×Int×(List Int)×Int×(List bK)×(List (List Int)))) (fu:Nat) (p1:bu) (k2:Int):(List Int)×(List Int)×(List aO)×Int×Int×Int×(List Int)×Int×(List bK)×(List (List Int))→Option (((List Int)×(List Int)×(List aO)×Int×Int×Int×(List Int)×Int×(List bK)×(List (List Int)))⊕(Ex ((List Int)×(List Int)×(List aO)×Int×Int×Int×(List Int)×Int×(List bK)×(List (List Int))) (Bool×(List Int)×(List Int)×(List aO)×Int×Int×Int×(List Int)×Int×(List bK)×(List (List Int))))):=fun (m25,m26,m27,m28,m29,m30,m31,m32,m33,m34)=>
 (idx m25 k2).bind fun x50=>
 (idx p1.aU k2).bind fun x51=>
 cond (decide (x50<x51))
  ((self p1 (wrap .i64 (k2+1)) m25 m26 m27 m28 m29 m30 m31 m32 m33 m34).bind fun ((r52,r53,r54,r55,r56,r57,r58,r59,r60,r61,r62):Bool×(List Int)×(List Int)×(List aO)×Int×Int×Int×(List Int)×Int×(List bK)×(List (List Int)))=>
   bif Nat.beq (List.length r53) (List.length m25) then
   bif Nat.beq (List.length r62) (List.length m34) then
   cond (!r52)
    (some (.inr (.ret (false,r53,r54,r55,r56,r57,r58,r59,r60,r61,r62))))
    ((idx r53 k2).bind fun x63=>
    (idx r53 k2).bind fun x64=>
    some (.inl (r53.set k2.toNat (wrap .i64 (x63+1)),r54,r55,r56,r57,r58,r59,r60,r61,r62)))
   else none
   else none)
  (some (.inr (.dW (m25,m26,m27,m28,m29,m30,m31,m32,m33,m34))))
def pL (self:bu→Int→(List Int)→(List Int)→(List aO)→Int→Int→Int→(List Int)→Int→(List bK)→(List (List Int))→Option (Bool×(List Int)×(List Int)×(List aO)×Int×Int×Int×(List Int)×Int×(List bK)×(List (List Int)))) (fu:Nat) (p1:bu) (k2:Int) (m3:List Int) (m4:List Int) (m5:List aO) (m6:Int) (m7:Int) (m8:Int) (m9:List Int) (m10:Int) (m11:List bK) (m12:List (List Int)):Option (Bool×(List Int)×(List Int)×(List aO)×Int×Int×Int×(List Int)×Int×(List bK)×(List (List Int))):=
 (kL fu p1 m3 k2).bind fun (r13:Bool)=>
 cond r13
  (some (true,m3,m4,m5,m6,m7,m8,m9,m10,m11,m12))
  (cond (k2==(p1.aU.length:Int))
    ((k7 fu m3).bind fun (r14:List Int)=>
    (pW fu r14 m4 m5 m6 m7 m8 m9 m10 m11 m12).bind fun ((r15,r16,r17,r18,r19,r20,r21,r22,r23):(List Int)×(List aO)×Int×Int×Int×(List Int)×Int×(List bK)×(List (List Int)))=>
    bif Nat.beq (List.length r23) (List.length m12) then
    some (true,m3,r15,r16,r17,r18,r19,r20,r21,r22,r23)
    else none)
    ((idx m3 k2).bind fun x24=>
    eU (fun r=>r) (aB (lN self fu p1 k2) fu (m3.set k2.toNat 0,m4,m5,m6,m7,m8,m9,m10,m11,m12):Option (Ex ((List Int)×(List Int)×(List aO)×Int×Int×Int×(List Int)×Int×(List bK)×(List (List Int))) (Bool×(List Int)×(List Int)×(List aO)×Int×Int×Int×(List Int)×Int×(List bK)×(List (List Int))))) fun ((m65,m66,m67,m68,m69,m70,m71,m72,m73,m74):(List Int)×(List Int)×(List aO)×Int×Int×Int×(List Int)×Int×(List bK)×(List (List Int)))=>
    some (true,m65,m66,m67,m68,m69,m70,m71,m72,m73,m74)))
def jE:Nat→bu→Int→(List Int)→(List Int)→(List aO)→Int→Int→Int→(List Int)→Int→(List bK)→(List (List Int))→Option (Bool×(List Int)×(List Int)×(List aO)×Int×Int×Int×(List Int)×Int×(List bK)×(List (List Int)))
 | 0=>fun _ _ _ _ _ _ _ _ _ _ _ _=>none
 | fu+1=>pL (jE fu) (fu+1)
def nH (fu:Nat) (m1:List Int) (m2:List aO) (m3:List Int) (m4:List aO) (m5:Int) (m6:Int) (m7:Int) (m8:List Int) (m9:Int) (m10:List bK) (m11:List (List Int)):Option ((List Int)×(List aO)×(List Int)×(List aO)×Int×Int×Int×(List Int)×Int×(List bK)×(List (List Int))):=
 (jh fu (⟨m1,m2⟩:bu)).bind fun (r12:Int)=>
 (cond (r12==0)
   ((bo ((0:Int)≤(m1.length:Int)∧(m1.length:Int)≤(m1.length:Int)∧((8:Nat):Int)*(m1.length:Int)≤281474976710656∧(m1.length:Int)≤9223372036854775807)).bind fun _=>
    (jE fu (⟨m1,m2⟩:bu) 0 (List.replicate (toNat (m1.length:Int)) (0:Int)) m3 m4 m5 m6 m7 m8 m9 m10 m11).bind fun ((r13,r14,r15,r16,r17,r18,r19,r20,r21,r22,r23):Bool×(List Int)×(List Int)×(List aO)×Int×Int×Int×(List Int)×Int×(List bK)×(List (List Int)))=>
    bif Nat.beq (List.length r14) (List.length (List.replicate (toNat (m1.length:Int)) (0:Int))) then
    bif Nat.beq (List.length r23) (List.length m11) then
    some (r15,r16,r17,r18,r19,r20,r21,r22,r23)
    else none
    else none)
   (some (m3,m4,m5,m6,m7,m8,m9,m10,m11))).bind fun ((m24,m25,m26,m27,m28,m29,m30,m31,m32):(List Int)×(List aO)×Int×Int×Int×(List Int)×Int×(List bK)×(List (List Int)))=>
 some (m1,m2,m24,m25,m26,m27,m28,m29,m30,m31,m32)
def oz (fu:Nat) (n1:aM):Int×(List (List Int))→Option ((Int×(List (List Int)))⊕(List (List Int))):=fun (v6,m7)=>
 cond (decide (v6<(n1.bC.length:Int)))
  ((idx n1.bC v6).bind fun x8=>
   (pN fu x8.ba).bind fun ((r9,r10):(List Int)×(List aO))=>
   (nH fu r9 r10 x8.ba.aU x8.ba.Rows x8.Do x8.Value x8.cg.Array x8.cg.At.db x8.cg.At.Const x8.de m7).bind fun ((r11,r12,r13,r14,r15,r16,r17,r18,r19,r20,r21):(List Int)×(List aO)×(List Int)×(List aO)×Int×Int×Int×(List Int)×Int×(List bK)×(List (List Int)))=>
   bif Nat.beq (List.length r21) (List.length m7) then
   some (.inl (wrap .i64 (v6+1),r21))
   else none)
  (some (.inr m7))
def nb (fu:Nat) (n1:aM) (mem2:List (List Int)):Option ((List (List Int))×Int):=
 (pV fu n1).bind fun (r3:Int)=>
 cond (r3 !=0)
  (some (([]:List (List Int)),r3))
  ((gP fu n1 mem2).bind fun ((r4,r5):Int×(List (List Int)))=>
   cond (r4 !=0)
    (some (([]:List (List Int)),r4))
    ((aB (oz fu n1) fu (0,r5)).bind fun (m22:List (List Int))=>
    some (m22,0)))
def gZ (fu:Nat) (a1:List (List Int)) (b2:List (List Int)) (v3:Int) (x6:List Int):Int→Option (Int⊕(Ex Unit (Int⊕(Ex Unit Bool)))):=fun v7=>
 cond (decide (v7<(x6.length:Int)))
  ((idx a1 v3).bind fun x8=>
   (idx x8 v7).bind fun x9=>
   (idx b2 v3).bind fun x10=>
   (idx x10 v7).bind fun x11=>
   cond (x9 !=x11)
    (some (.inr (.ret (.inr (.ret false)))))
    (some (.inl (wrap .i64 (v7+1)))))
  (some (.inr (.dW ())))
def gY (fu:Nat) (a1:List (List Int)) (b2:List (List Int)):Int→Option (Int⊕(Ex Unit Bool)):=fun v3=>
 cond (decide (v3<(a1.length:Int)))
  ((idx a1 v3).bind fun x4=>
   (idx b2 v3).bind fun x5=>
   cond ((x4.length:Int) !=(x5.length:Int))
    (some (.inr (.ret false)))
    ((idx a1 v3).bind fun x6=>
    eU (fun r=>r) (aB (gZ fu a1 b2 v3 x6) fu 0:Option (Ex Unit (Int⊕(Ex Unit Bool)))) fun (_:Unit)=>
    some (.inl (wrap .i64 (v3+1)))))
  (some (.inr (.dW ())))
def gA (fu:Nat) (a1:List (List Int)) (b2:List (List Int)):Option Bool:=
 cond ((a1.length:Int) !=(b2.length:Int))
  (some false)
  (eU (fun r=>r) (aB (gY fu a1 b2) fu 0:Option (Ex Unit Bool)) fun (_:Unit)=>
   some true)
def iW (fu:Nat) (n1:aM) (mem2:List (List Int)) (mix3:List Int):Option Bool:=
 (jo fu).bind fun (r4:Bool)=>
 cond (!r4)
  (some false)
  ((rC fu n1).bind fun (r5:List (List aO))=>
   (rD fu n1 r5).bind fun ((r6,r7):gC×Int)=>
   cond (r7 !=0)
    (some true)
    ((sY fu n1 r5).bind fun ((r8,r9):gC×Int)=>
    (cond r6.Any (some true) (cond (r9 !=0) (some true) (some r8.Any))).bind fun (v10:Bool)=>
    cond v10
     (some false)
     ((nb fu n1 mem2).bind fun ((r11,r12):(List (List Int))×Int)=>
      (jS fu n1 r5 mem2 mix3).bind fun ((r13,r14):(List (List Int))×Int)=>
      (cond (r12==r14) ((gA fu r11 r13).bind fun (r15:Bool)=>
       some r15) (some false)).bind fun (v16:Bool)=>
      some v16)))
end F
end
end Go.DN
