/-
  The functions, as Lean functions over data.
-/
import Derived.Test.YtaobkpnecfcefaaDoorTrS
set_option maxRecDepth 20000
set_option linter.unusedVariables false
set_option linter.unusedSimpArgs false
namespace Go.DN
open Go.AM
noncomputable section
open Go.IntKind (wrap)
open Int (toNat)
namespace F
abbrev Wa:Type:=(Bool×Int×Bool×(List Int))
abbrev Wc:Type:=((ai×(List ah)×Int×Int)⊕((Int×Int)×((List ah)×Int×Int)))
abbrev Wd:Type:=(Wa⊕((Int×Int)×Wa))
abbrev We:Type:=((ai×(List ah)×Int×Int×(List ByteArray))⊕((Int×Int)×((List ah)×Int×Int×(List ByteArray))))
abbrev Wf:Type:=((Int×Int)×((List ah)×Int×Int))
abbrev Wg:Type:=((List ah)×Int×Int×ByteArray×Int×ByteArray×Int×Bool×(List bh)×(List (List Int))×(List ai)×(List cJ))
abbrev Wh:Type:=(Int×Bool×Int×Bool×(List Int))
abbrev Wi:Type:=((List ah)×Int×Int×(List ai)×Int×ByteArray×Int×Bool×(List bh))
abbrev Wj:Type:=(ByteArray×Int)
abbrev Wk:Type:=((Bool×Int)⊕(Ex Unit Bool))
abbrev Wl:Type:=((Int×(List ah)×Int×Int×Int×ByteArray×Int×Bool×(List bh)×(List (List Int))×(List ai)×Int×ByteArray×Int×Bool×(List bh)×(List (List Int))×(List ai))⊕(Ex Unit We))
abbrev Wm:Type:=((List ah)×Int×Int×(List (List Int))×Int×ByteArray×Int×Bool×(List bh))
abbrev Wn:Type:=((List ah)×Int×Int×(List bh))
abbrev Wo:Type:=((Int×Int)×Unit)
abbrev Wp:Type:=(((List bh)×(List ah)×Int×Int)⊕Wf)
abbrev Wq:Type:=(dQ×Bool×Int×Bool×(List Int))
abbrev Wr:Type:=((br×(List ah)×Int×Int)⊕Wf)
abbrev Ws:Type:=(ByteArray×(List ah)×Int×Int)
abbrev Wt:Type:=(Wh⊕(Ex Wa Wd))
abbrev Wu:Type:=((ah×ByteArray×Int)⊕((Int×Int)×Wj))
abbrev Wv:Type:=(((List Int)×(List ah)×Int×Int)⊕Wf)
def jC (fu:Nat) (c1:Int):Option Bool:=
 some (c1 !=10)
def rM (fu:Nat):ByteArray×Int→Option (Wj⊕Wj):=fun (m3,m4)=>
 (cond (decide (m4<(m3.size:Int))) ((lF m3 m4).bind fun c5=>
  (jC fu ((c5.toNat:Nat):Int)).bind fun (r6:Bool)=>
  some r6) (some false)).bind fun (v7:Bool)=>
 cond v7
  (some (.inl (m3,wrap .i64 (m4+1))))
  (some (.inr (m3,m4)))
def nh (fu:Nat) (m1:ByteArray) (m2:Int):Option (ByteArray×ByteArray×Int):=
 (aX (rM fu) fu (m1,m2)).bind fun ((m8,m9):ByteArray×Int)=>
 (dA ((0:Int)≤m2∧m2≤m9∧m9≤(m8.size:Int))).bind fun _=>
 some (m8.extract m2.toNat m9.toNat,m8,m9)
def gC (fu:Nat):ByteArray×Int→Option (Wj⊕(Ex Wj Wj)):=fun (m3,m4)=>
 cond (decide (m4<(m3.size:Int)))
  ((lF m3 m4).bind fun c5=>
   (cond (((c5.toNat:Nat):Int)==32)
     (some (((c5.toNat:Nat):Int)==32))
     ((cond (((c5.toNat:Nat):Int)==9)
       (some (((c5.toNat:Nat):Int)==9))
       ((cond (((c5.toNat:Nat):Int)==10)
          (some (((c5.toNat:Nat):Int)==10))
          (some (((c5.toNat:Nat):Int)==13))).bind fun (v6:Bool)=>
        some v6)).bind fun (v7:Bool)=>
     some v7)).bind fun (v8:Bool)=>
   bx (fun r=>r) (cond v8
     (some (.cD (m3,wrap .i64 (m4+1))))
     (cond (((c5.toNat:Nat):Int)==35)
      ((nh fu m3 m4).bind fun ((r9,r10,r11):ByteArray×ByteArray×Int)=>
       some (.cD (r10,r11)))
      (some (.ret (.inr (.ret (m3,m4)))))):Option (Ex Wj (Wj⊕(Ex Wj Wj)))) fun ((m12,m13):ByteArray×Int)=>
   some (.inl (m12,m13)))
  (some (.inr (.cD (m3,m4))))
def je (fu:Nat) (m1:ByteArray) (m2:Int):Option Wj:=
 bx (fun r=>r) (aX (gC fu) fu (m1,m2):Option (Ex Wj Wj)) fun ((m14,m15):ByteArray×Int)=>
 some (m14,m15)
def k8 (fu:Nat) (c1:Int):Option Bool:=
 (cond (decide (c1≥97)) (cond (decide (c1≤122)) (some true) (cond (decide (c1≥65)) (cond (decide (c1≤90)) (some true) (some (c1==95))) (some (c1==95)))) (cond (decide (c1≥65)) (cond (decide (c1≤90)) (some true) (some (c1==95))) (some (c1==95)))).bind fun (v2:Bool)=>
 some v2
def kW (fu:Nat) (c1:Int):Option Bool:=
 (cond (decide (c1≥48)) (some (decide (c1≤57))) (some false)).bind fun (v2:Bool)=>
 some v2
def kQ (fu:Nat) (c1:Int):Option Bool:=
 ((k8 fu c1).bind fun (r2:Bool)=>
  cond r2 (some true) ((kW fu c1).bind fun (r3:Bool)=>
  some r3)).bind fun (v4:Bool)=>
 some v4
def qj (fu:Nat):ByteArray×Int→Option (Wj⊕Wj):=fun (m3,m4)=>
 (cond (decide (m4<(m3.size:Int))) ((lF m3 m4).bind fun c5=>
  (kQ fu ((c5.toNat:Nat):Int)).bind fun (r6:Bool)=>
  some r6) (some false)).bind fun (v7:Bool)=>
 cond v7
  (some (.inl (m3,wrap .i64 (m4+1))))
  (some (.inr (m3,m4)))
def lU (fu:Nat) (m1:ByteArray) (m2:Int):Option (ByteArray×ByteArray×Int):=
 (aX (qj fu) fu (m1,m2)).bind fun ((m8,m9):ByteArray×Int)=>
 (dA ((0:Int)≤m2∧m2≤m9∧m9≤(m8.size:Int))).bind fun _=>
 some (m8.extract m2.toNat m9.toNat,m8,m9)
def kP (fu:Nat) (c1:Int):Option Bool:=
 ((k8 fu c1).bind fun (r2:Bool)=>
  cond r2 (some true) ((kW fu c1).bind fun (r3:Bool)=>
  some r3)).bind fun (v4:Bool)=>
 some v4
def qi (fu:Nat):ByteArray×Int→Option (Wj⊕Wj):=fun (m3,m4)=>
 (cond (decide (m4<(m3.size:Int))) ((lF m3 m4).bind fun c5=>
  (kP fu ((c5.toNat:Nat):Int)).bind fun (r6:Bool)=>
  some r6) (some false)).bind fun (v7:Bool)=>
 cond v7
  (some (.inl (m3,wrap .i64 (m4+1))))
  (some (.inr (m3,m4)))
def lT (fu:Nat) (m1:ByteArray) (m2:Int):Option (ByteArray×ByteArray×Int):=
 (aX (qi fu) fu (m1,m2)).bind fun ((m8,m9):ByteArray×Int)=>
 (dA ((0:Int)≤m2∧m2≤m9∧m9≤(m8.size:Int))).bind fun _=>
 some (m8.extract m2.toNat m9.toNat,m8,m9)
def lV (fu:Nat) (m2:Int) (r9:ByteArray) (r10:ByteArray) (r11:Int):Int→Option (Int⊕(Ex Unit Wu)):=fun v12=>
 cond (decide (v12<(r9.size:Int)))
  ((lF r9 v12).bind fun c13=>
   (kW fu ((c13.toNat:Nat):Int)).bind fun (r14:Bool)=>
   cond (!r14)
    (some (.inr (.ret (.inr ((7,m2),(r10,r11))))))
    (some (.inl (wrap .i64 (v12+1)))))
  (some (.inr (.cD ())))
def lW (fu:Nat) (m1:ByteArray) (m2:Int):Option Wu:=
 (lF m1 m2).bind fun c3=>
 (k8 fu ((c3.toNat:Nat):Int)).bind fun (r4:Bool)=>
 cond r4
  ((lU fu m1 m2).bind fun ((r5,r6,r7):ByteArray×ByteArray×Int)=>
   some (.inl ((⟨r5,m2⟩:ah),r6,r7)))
  ((kW fu ((c3.toNat:Nat):Int)).bind fun (r8:Bool)=>
   cond r8
    ((lT fu m1 m2).bind fun ((r9,r10,r11):ByteArray×ByteArray×Int)=>
    bx (fun r=>r) (aX (lV fu m2 r9 r10 r11) fu 0:Option (Ex Unit Wu)) fun (_:Unit)=>
    ((lF r9 0).bind fun c15=>
     cond (((c15.toNat:Nat):Int)==48) (some (decide ((r9.size:Int)>1))) (some false)).bind fun (v16:Bool)=>
    cond v16
     (some (.inr ((7,m2),(r10,r11))))
     ((pB r9 10 64).bind fun ((r17,r18):Int×Bool)=>
      cond r18
       (some (.inr ((4,m2),(r10,r11))))
       (some (.inl ((⟨r9,m2⟩:ah),r10,r11)))))
    ((cond (((c3.toNat:Nat):Int)==40)
      (some (((c3.toNat:Nat):Int)==40))
      ((cond (((c3.toNat:Nat):Int)==41)
         (some (((c3.toNat:Nat):Int)==41))
         ((cond (((c3.toNat:Nat):Int)==91)
           (some (((c3.toNat:Nat):Int)==91))
           ((cond (((c3.toNat:Nat):Int)==93)
              (some (((c3.toNat:Nat):Int)==93))
              ((cond (((c3.toNat:Nat):Int)==123)
                (some (((c3.toNat:Nat):Int)==123))
                ((cond (((c3.toNat:Nat):Int)==125)
                   (some (((c3.toNat:Nat):Int)==125))
                   ((cond (((c3.toNat:Nat):Int)==44)
                     (some (((c3.toNat:Nat):Int)==44))
                     ((cond (((c3.toNat:Nat):Int)==58)
                        (some (((c3.toNat:Nat):Int)==58))
                        ((cond (((c3.toNat:Nat):Int)==61)
                          (some (((c3.toNat:Nat):Int)==61))
                          ((cond (((c3.toNat:Nat):Int)==43)
                             (some (((c3.toNat:Nat):Int)==43))
                             ((cond (((c3.toNat:Nat):Int)==45)
                               (some (((c3.toNat:Nat):Int)==45))
                               ((cond (((c3.toNat:Nat):Int)==42)
                                  (some (((c3.toNat:Nat):Int)==42))
                                  (some (((c3.toNat:Nat):Int)==59))).bind fun (v19:Bool)=>
                                some v19)).bind fun (v20:Bool)=>
                             some v20)).bind fun (v21:Bool)=>
                           some v21)).bind fun (v22:Bool)=>
                        some v22)).bind fun (v23:Bool)=>
                      some v23)).bind fun (v24:Bool)=>
                   some v24)).bind fun (v25:Bool)=>
                 some v25)).bind fun (v26:Bool)=>
              some v26)).bind fun (v27:Bool)=>
            some v27)).bind fun (v28:Bool)=>
         some v28)).bind fun (v29:Bool)=>
       some v29)).bind fun (v30:Bool)=>
    cond v30
     ((dA ((0:Int)≤m2∧m2≤(wrap .i64 (m2+1))∧(wrap .i64 (m2+1))≤(m1.size:Int))).bind fun _=>
      some (.inl ((⟨m1.extract m2.toNat (wrap .i64 (m2+1)).toNat,m2⟩:ah),m1,wrap .i64 (m2+1))))
     (some (.inr ((7,m2),(m1,m2))))))
def lJ (fu:Nat) (m1:Int) (m2:Int) (m3:List ah):Option (Int×Int×(List ah)):=
 (cond (m1 !=0)
   (some ([]:List ah))
   (some m3)).bind fun (m4:List ah)=>
 some (m1,m2,m4)
def mI (fu:Nat) (s1:ByteArray):ByteArray×Int×(List ah)→Option ((ByteArray×Int×(List ah))⊕(Ex (ByteArray×Int×(List ah)) (((List ah)×dQ)⊕Wo))):=fun (m4,m5,m6)=>
 cond (decide (m5<(s1.size:Int)))
  (rT (aD (lW fu m4 m5)
    (fun ((r7,r8,r9):ah×ByteArray×Int)=>
     (dA (m6.length+[r7].length≤maxLen∧(m6.length+[r7].length)*24≤140737488355328)).bind fun _=>
     (je fu r8 r9).bind fun ((r10,r11):ByteArray×Int)=>
     some (.inl (r10,r11,m6++[r7])))
    (fun ((e12,e13),(r14,r15))=>
     ((lJ fu e12 e13 m6).bind fun ((r16,r17,r18):Int×Int×(List ah))=>
      some (.inl (r18,(⟨r16,r17⟩:dQ)))).bind fun r=>some (.inr (.ret r)))) (aD (lW fu m4 m5)
    (fun ((r7,r8,r9):ah×ByteArray×Int)=>
     pr ((dA (m6.length+[r7].length≤maxLen∧(m6.length+[r7].length)*24≤140737488355328)).bind fun _=>
     (je fu r8 r9).bind fun ((r10,r11):ByteArray×Int)=>
     some (.inl (r10,r11,m6++[r7]))))
    (fun ((e12,e13),(r14,r15))=>
     ((lJ fu e12 e13 m6).bind fun ((r16,r17,r18):Int×Int×(List ah))=>
      some (.inl (r18,(⟨r16,r17⟩:dQ)))).bind fun r=>some (.inr (.ret r)))))
  (some (.inr (.cD (m4,m5,m6))))
def tB (fu:Nat) (s1:ByteArray):Option (((List ah)×dQ)⊕Wo):=
 cond (decide ((s1.size:Int)>65536))
  (some (.inl (([]:List ah),(⟨5,0⟩:dQ))))
  ((je fu s1 0).bind fun ((r2,r3):ByteArray×Int)=>
   bx (fun r=>r) (aX (mI fu s1) fu (r2,r3,([]:List ah)):Option (Ex (ByteArray×Int×(List ah)) (((List ah)×dQ)⊕Wo))) fun ((m19,m20,m21):ByteArray×Int×(List ah))=>
   (rT (pr (some (0,0))) (some (0,0)):Option (Int×Int)).bind fun ((m22,m23):Int×Int)=>
   (lJ fu m22 m23 m21).bind fun ((r24,r25,r26):Int×Int×(List ah))=>
   some (.inl (r26,(⟨r24,r25⟩:dQ))))
def mn (fu:Nat) (s1:ByteArray):Option ((List ah)×dQ):=GV (tB fu s1)
def mD (fu:Nat):Option Bool:=
 (mn fu (ByteArray.mk #[97,32,98])).bind fun ((r1,r2):(List ah)×dQ)=>
 (cond ((r1.length:Int)==2) (some (r2.A8==0)) (some false)).bind fun (v3:Bool)=>
 some v3
def gS (fu:Nat) (s1:ByteArray) (m2:Bool) (m3:Int) (m4:Bool) (m5:List Int):Option (Int×Int×Bool×(List Int)):=
 (Rw m2 m3 m4 m5).bind fun ((r6,r7,r8):Int×Bool×(List Int))=>
 bif Nat.beq (List.length r8) (List.length m5) then
 (dA (r8.length+s1.size≤140737488355328)).bind fun _=>
 some ((s1.size:Int),r6,r7,r8++aH s1)
 else none
def kg (fu:Nat) (l1:List ByteArray):Int×Bool×Int×Bool×(List Int)→Option (Wh⊕Wa):=fun (v6,m7,m8,m9,m10)=>
 cond (decide (v6<(l1.length:Int)))
  ((idx l1 v6).bind fun x11=>
   (gS fu x11 m7 m8 m9 m10).bind fun ((r12,r13,r14,r15):Int×Int×Bool×(List Int))=>
   some (.inl (wrap .i64 (v6+1),false,r13,r14,r15)))
  (some (.inr (m7,m8,m9,m10)))
def bl (fu:Nat) (l1:List ByteArray) (m2:Bool) (m3:Int) (m4:Bool) (m5:List Int):Option Wa:=
 (aX (kg fu l1) fu (0,m2,m3,m4,m5)).bind fun ((m16,m17,m18,m19):Bool×Int×Bool×(List Int))=>
 some (m16,m17,m18,m19)
def qI (fu:Nat) (s1:ByteArray):Option Bool:=
 (cond (s1.toList==(ByteArray.mk #[102,110]).toList)
   (some (s1.toList==(ByteArray.mk #[102,110]).toList))
   ((cond (s1.toList==(ByteArray.mk #[108,101,116]).toList)
      (some (s1.toList==(ByteArray.mk #[108,101,116]).toList))
      ((cond (s1.toList==(ByteArray.mk #[105,110]).toList)
        (some (s1.toList==(ByteArray.mk #[105,110]).toList))
        ((cond (s1.toList==(ByteArray.mk #[114,101,112,101,97,116]).toList)
           (some (s1.toList==(ByteArray.mk #[114,101,112,101,97,116]).toList))
           (some (s1.toList==(ByteArray.mk #[119,105,116,104]).toList))).bind fun (v2:Bool)=>
         some v2)).bind fun (v3:Bool)=>
      some v3)).bind fun (v4:Bool)=>
    some v4)).bind fun (v5:Bool)=>
 cond v5
  (some true)
  (some false)
def eL (fu:Nat) (s1:ByteArray):Bool×Int→Option Wk:=fun (v6,v7)=>
 cond (decide (v7<(s1.size:Int)))
  (((lF s1 v7).bind fun c8=>
    (k8 fu ((c8.toNat:Nat):Int)).bind fun (r9:Bool)=>
    cond (!r9) ((lF s1 v7).bind fun c10=>
    (kW fu ((c10.toNat:Nat):Int)).bind fun (r11:Bool)=>
    some (!r11)) (some false)).bind fun (v12:Bool)=>
   cond v12
    (some (.inr (.ret false)))
    (some (.inl (v6,wrap .i64 (v7+1)))))
  (some (.inr (.cD ())))
def jF (fu:Nat) (s1:ByteArray):Option Bool:=
 (cond (s1.toList==(ByteArray.mk #[]).toList) (some true) ((lF s1 0).bind fun c2=>
  (k8 fu ((c2.toNat:Nat):Int)).bind fun (r3:Bool)=>
  cond (!r3) (some true) ((qI fu s1).bind fun (r4:Bool)=>
  some r4))).bind fun (v5:Bool)=>
 cond v5
  (some false)
  (bx (fun r=>r) (aX (eL fu s1) fu (false,0):Option (Ex Unit Bool)) fun (_:Unit)=>
   some true)
def ey (fu:Nat) (s1:ByteArray) (m2:Bool) (m3:Int) (m4:Bool) (m5:List Int):Option Wd:=
 (jF fu s1).bind fun (r6:Bool)=>
 cond (!r6)
  (some (.inr ((7,0),(m2,m3,m4,m5))))
  ((bl fu [s1] m2 m3 m4 m5).bind fun ((r7,r8,r9,r10):Bool×Int×Bool×(List Int))=>
   some (.inl (r7,r8,r9,r10)))
def ga (fu:Nat) (n1:Int) (m2:Bool) (m3:Int) (m4:Bool) (m5:List Int):Option Wd:=
 cond (decide (n1<0))
  (some (.inr ((7,0),(m2,m3,m4,m5))))
  ((Ez n1 10).bind fun (r6:ByteArray)=>
   (bl fu [r6] m2 m3 m4 m5).bind fun ((r7,r8,r9,r10):Bool×Int×Bool×(List Int))=>
   some (.inl (r7,r8,r9,r10)))
def iP (fu:Nat) (l1:List bh):Int×Bool×Int×Bool×(List Int)→Option Wt:=fun (v10,m11,m12,m13,m14)=>
 cond (decide (v10<(l1.length:Int)))
  ((idx l1 v10).bind fun x15=>
   (cond (decide (v10>0))
     ((bl fu [(ByteArray.mk #[32])] m11 m12 m13 m14).bind fun ((r16,r17,r18,r19):Bool×Int×Bool×(List Int))=>
     some (r16,r17,r18,r19))
     (some (m11,m12,m13,m14))).bind fun ((m20,m21,m22,m23):Bool×Int×Bool×(List Int))=>
   bx (fun r=>r) (cond (x15.Name.toList==(ByteArray.mk #[]).toList)
     (aD (ga fu x15.lG m20 m21 m22 m23)
      (fun ((r24,r25,r26,r27):Bool×Int×Bool×(List Int))=>
       some (.cD (r24,r25,r26,r27)))
      (fun ((e28,e29),(r30,r31,r32,r33))=>
       some (.ret (.inr (.ret (.inr ((e28,e29),(r30,r31,r32,r33))))))))
     (cond (x15.lG !=0)
      (some (.ret (.inr (.ret (.inr ((7,0),(m20,m21,m22,m23)))))))
      (aD (ey fu x15.Name m20 m21 m22 m23)
        (fun ((r34,r35,r36,r37):Bool×Int×Bool×(List Int))=>
         some (.cD (r34,r35,r36,r37)))
        (fun ((e38,e39),(r40,r41,r42,r43))=>
         some (.ret (.inr (.ret (.inr ((e38,e39),(r40,r41,r42,r43))))))))):Option (Ex Wa Wt)) fun ((m44,m45,m46,m47):Bool×Int×Bool×(List Int))=>
   some (.inl (wrap .i64 (v10+1),m44,m45,m46,m47)))
  (some (.inr (.cD (m11,m12,m13,m14))))
def jc (fu:Nat) (l1:List bh) (m2:Bool) (m3:Int) (m4:Bool) (m5:List Int):Option Wd:=
 (bl fu [(ByteArray.mk #[91])] m2 m3 m4 m5).bind fun ((r6,r7,r8,r9):Bool×Int×Bool×(List Int))=>
 bx (fun r=>r) (aX (iP fu l1) fu (0,r6,r7,r8,r9):Option (Ex Wa Wd)) fun ((m48,m49,m50,m51):Bool×Int×Bool×(List Int))=>
 (bl fu [(ByteArray.mk #[93])] m48 m49 m50 m51).bind fun ((r52,r53,r54,r55):Bool×Int×Bool×(List Int))=>
 some (.inl (r52,r53,r54,r55))
def qJ (fu:Nat) (t1:ai):Option Bool:=
 (cond (decide ((t1.Shape.length:Int)>0)) (some (!t1.Shaped)) (some false)).bind fun (v2:Bool)=>
 (cond v2
   (some v2)
   ((cond t1.Shaped (some (!(t1.Kind==3))) (some false)).bind fun (v3:Bool)=>
    (cond v3
      (some v3)
      ((cond (decide ((t1.bC.length:Int)>0)) (some (!(t1.Kind==3))) (some false)).bind fun (v4:Bool)=>
      some v4)).bind fun (v5:Bool)=>
    some v5)).bind fun (v6:Bool)=>
 cond v6
  (some false)
  ((cond (!(t1.Name.toList==(ByteArray.mk #[]).toList)) (some (t1.Kind==1)) (some false)).bind fun (v7:Bool)=>
   (cond v7
     (some v7)
     ((cond (t1.Number !=0) (cond (t1.Kind !=1) (some (t1.Kind !=6)) (some false)) (some false)).bind fun (v8:Bool)=>
     some v8)).bind fun (v9:Bool)=>
   cond v9
    (some false)
    ((cond (t1.Kind==1)
      (some (t1.Kind==1))
      (some (t1.Kind==2))).bind fun (v10:Bool)=>
    cond v10
     (some ((t1.Kids.length:Int)==0))
     ((cond (t1.Kind==4)
        (some (t1.Kind==4))
        ((cond (t1.Kind==5)
          (some (t1.Kind==5))
          (some (t1.Kind==6))).bind fun (v11:Bool)=>
        some v11)).bind fun (v12:Bool)=>
      cond v12
       (some ((t1.Kids.length:Int)==2))
       (some (t1.Kind==3)))))
def cL (fu:Nat) (m1:Bool) (m2:Int) (m3:Bool) (m4:List Int):Option Wa:=
 some (m1,wrap .i64 (m2-1),m3,m4)
def nE (fu:Nat) (t1:ai):Option Int:=
 (cond (t1.Kind==5) (some true) (some (t1.Kind==6))).bind fun (v2:Bool)=>
 cond v2
  (some 0)
  (cond (t1.Kind !=4)
    (some 3)
    (cond (t1.Name.toList==(ByteArray.mk #[42]).toList)
     (some 2)
     (some 1)))
def jy (self:ai→Bool→Int→Bool→(List Int)→Option Wd) (fu:Nat) (x29:List Int):Int×Bool×Int×Bool×(List Int)→Option (Wh⊕(Ex Wa Wt)):=fun (v34,m35,m36,m37,m38)=>
 cond (decide (v34<(x29.length:Int)))
  ((idx x29 v34).bind fun x39=>
   (cond (decide (v34>0))
     ((bl fu [(ByteArray.mk #[32])] m35 m36 m37 m38).bind fun ((r40,r41,r42,r43):Bool×Int×Bool×(List Int))=>
     some (r40,r41,r42,r43))
     (some (m35,m36,m37,m38))).bind fun ((m44,m45,m46,m47):Bool×Int×Bool×(List Int))=>
   aD (ga fu x39 m44 m45 m46 m47)
    (fun ((r48,r49,r50,r51):Bool×Int×Bool×(List Int))=>
     some (.inl (wrap .i64 (v34+1),r48,r49,r50,r51)))
    (fun ((e52,e53),(r54,r55,r56,r57))=>
     some (.inr (.ret (.inr (.ret (.inr ((e52,e53),(r54,r55,r56,r57)))))))))
  (some (.inr (.cD (m35,m36,m37,m38))))
def jx (self:ai→Bool→Int→Bool→(List Int)→Option Wd) (fu:Nat) (t1:ai):Int×Bool×Int×Bool×(List Int)→Option Wt:=fun (v24,m25,m26,m27,m28)=>
 cond (decide (v24<(t1.bC.length:Int)))
  ((idx t1.bC v24).bind fun x29=>
   (bl fu [(ByteArray.mk #[123])] m25 m26 m27 m28).bind fun ((r30,r31,r32,r33):Bool×Int×Bool×(List Int))=>
   bx (fun r=>r) (aX (jy self fu x29) fu (0,r30,r31,r32,r33):Option (Ex Wa Wt)) fun ((m58,m59,m60,m61):Bool×Int×Bool×(List Int))=>
   (bl fu [(ByteArray.mk #[125])] m58 m59 m60 m61).bind fun ((r62,r63,r64,r65):Bool×Int×Bool×(List Int))=>
   some (.inl (wrap .i64 (v24+1),r62,r63,r64,r65)))
  (some (.inr (.cD (m25,m26,m27,m28))))
def jv (self:ai→Bool→Int→Bool→(List Int)→Option Wd) (fu:Nat) (t1:ai):Int×Bool×Int×Bool×(List Int)→Option Wt:=fun (v74,m75,m76,m77,m78)=>
 cond (decide (v74<(t1.Kids.length:Int)))
  ((idx t1.Kids v74).bind fun x79=>
   (cond (decide (v74>0))
     ((bl fu [(ByteArray.mk #[44,32])] m75 m76 m77 m78).bind fun ((r80,r81,r82,r83):Bool×Int×Bool×(List Int))=>
     some (r80,r81,r82,r83))
     (some (m75,m76,m77,m78))).bind fun ((m84,m85,m86,m87):Bool×Int×Bool×(List Int))=>
   aD (self (⟨x79.Kind,x79.Name,x79.Number,x79.Shaped,x79.Shape,x79.bC,x79.Kids⟩:ai) m84 m85 m86 m87)
    (fun ((r88,r89,r90,r91):Bool×Int×Bool×(List Int))=>
     some (.inl (wrap .i64 (v74+1),r88,r89,r90,r91)))
    (fun ((e92,e93),(r94,r95,r96,r97))=>
     some (.inr (.ret (.inr ((e92,e93),(r94,r95,r96,r97)))))))
  (some (.inr (.cD (m75,m76,m77,m78))))
def nf (self:ai→Bool→Int→Bool→(List Int)→Option Wd) (fu:Nat) (t1:ai) (m2:Bool) (m3:Int) (m4:Bool) (m5:List Int):Option Wd:=
 aD (ey fu t1.Name m2 m3 m4 m5)
  (fun ((r6,r7,r8,r9):Bool×Int×Bool×(List Int))=>
   bx (fun r=>r) (cond t1.Shaped
     (aD (jc fu t1.Shape r6 r7 r8 r9)
       (fun ((r10,r11,r12,r13):Bool×Int×Bool×(List Int))=>
        some (.cD (r10,r11,r12,r13)))
       (fun ((e14,e15),(r16,r17,r18,r19))=>
        some (.ret (.inr ((e14,e15),(r16,r17,r18,r19))))))
     (some (.cD (r6,r7,r8,r9))):Option (Ex Wa Wd)) fun ((m20,m21,m22,m23):Bool×Int×Bool×(List Int))=>
   bx (fun r=>r) (aX (jx self fu t1) fu (0,m20,m21,m22,m23):Option (Ex Wa Wd)) fun ((m66,m67,m68,m69):Bool×Int×Bool×(List Int))=>
   (bl fu [(ByteArray.mk #[40])] m66 m67 m68 m69).bind fun ((r70,r71,r72,r73):Bool×Int×Bool×(List Int))=>
   bx (fun r=>r) (aX (jv self fu t1) fu (0,r70,r71,r72,r73):Option (Ex Wa Wd)) fun ((m98,m99,m100,m101):Bool×Int×Bool×(List Int))=>
   (bl fu [(ByteArray.mk #[41])] m98 m99 m100 m101).bind fun ((r102,r103,r104,r105):Bool×Int×Bool×(List Int))=>
   some (.inl (r102,r103,r104,r105)))
  (fun ((e106,e107),(r108,r109,r110,r111))=>
   some (.inr ((e106,e107),(r108,r109,r110,r111))))
def n7 (self:ai→Int→Int→Bool→Int→Bool→(List Int)→Option Wd) (fu:Nat) (t1:ai) (s2:Int) (length3:Int) (m4:Bool) (m5:Int) (m6:Bool) (m7:List Int):Option Wd:=
 (cond (!(t1.Name.toList==(ByteArray.mk #[43]).toList)) (cond (!(t1.Name.toList==(ByteArray.mk #[45]).toList)) (some (!(t1.Name.toList==(ByteArray.mk #[42]).toList))) (some false)) (some false)).bind fun (v8:Bool)=>
 cond v8
  (some (.inr ((7,0),(m4,m5,m6,m7))))
  ((cond m6 (some (m4,m5,true)) (some (m4,m5,decide (length3>64)))).bind fun ((m9,m10,m11):Bool×Int×Bool)=>
   (idx t1.Kids 0).bind fun x12=>
   (nE fu x12).bind fun (r13:Int)=>
   (cond (r13==s2)
     (some (wrap .i64 (length3+1)))
     (some 1)).bind fun (n14:Int)=>
   (idx t1.Kids 0).bind fun x15=>
   aD (self x15 s2 n14 m9 m10 m11 m7)
    (fun ((r16,r17,r18,r19):Bool×Int×Bool×(List Int))=>
     (bl fu [(ByteArray.mk #[32]),t1.Name,(ByteArray.mk #[32])] r16 r17 r18 r19).bind fun ((r20,r21,r22,r23):Bool×Int×Bool×(List Int))=>
     (idx t1.Kids 1).bind fun x24=>
     aD (self x24 (wrap .i64 (s2+1)) 1 r20 r21 r22 r23)
      (fun ((r25,r26,r27,r28):Bool×Int×Bool×(List Int))=>
       some (.inl (r25,r26,r27,r28)))
      (fun ((e29,e30),(r31,r32,r33,r34))=>
       some (.inr ((e29,e30),(r31,r32,r33,r34)))))
    (fun ((e35,e36),(r37,r38,r39,r40))=>
     some (.inr ((e35,e36),(r37,r38,r39,r40)))))
def kh (self:ai→Bool→Int→Bool→(List Int)→Option Wd) (self2:ai→Int→Int→Bool→Int→Bool→(List Int)→Option Wd) (fu:Nat) (t1:ai) (least2:Int) (length3:Int) (m4:Bool) (m5:Int) (m6:Bool) (m7:List Int):Option Wd:=
 (qJ fu (⟨t1.Kind,t1.Name,t1.Number,t1.Shaped,t1.Shape,t1.bC,t1.Kids⟩:ai)).bind fun (r8:Bool)=>
 cond (!r8)
  (some (.inr ((7,0),(m4,m5,m6,m7))))
  ((nE fu (⟨t1.Kind,t1.Name,t1.Number,t1.Shaped,t1.Shape,t1.bC,t1.Kids⟩:ai)).bind fun (r9:Int)=>
   cond (decide (r9<least2))
    ((bl fu [(ByteArray.mk #[40])] m4 m5 m6 m7).bind fun ((r10,r11,r12,r13):Bool×Int×Bool×(List Int))=>
    aD (self (⟨t1.Kind,t1.Name,t1.Number,t1.Shaped,t1.Shape,t1.bC,t1.Kids⟩:ai) r10 r11 r12 r13)
     (fun ((r14,r15,r16,r17):Bool×Int×Bool×(List Int))=>
      (bl fu [(ByteArray.mk #[41])] r14 r15 r16 r17).bind fun ((r18,r19,r20,r21):Bool×Int×Bool×(List Int))=>
      some (.inl (r18,r19,r20,r21)))
     (fun ((e22,e23),(r24,r25,r26,r27))=>
      some (.inr ((e22,e23),(r24,r25,r26,r27)))))
    (bx (fun r=>r) (cond (t1.Kind==1)
      (aD (ga fu t1.Number m4 m5 m6 m7)
        (fun ((r28,r29,r30,r31):Bool×Int×Bool×(List Int))=>
         some (.cD (r28,r29,r30,r31)))
        (fun ((e32,e33),(r34,r35,r36,r37))=>
         some (.ret (.inr ((e32,e33),(r34,r35,r36,r37))))))
      (bx (fun r=>r) (cond (t1.Kind==2)
         (aD (ey fu t1.Name m4 m5 m6 m7)
          (fun ((r38,r39,r40,r41):Bool×Int×Bool×(List Int))=>
           some (.cD (r38,r39,r40,r41)))
          (fun ((e42,e43),(r44,r45,r46,r47))=>
           some (.ret (.ret (.inr ((e42,e43),(r44,r45,r46,r47)))))))
         (bx (fun r=>r) (cond (t1.Kind==4)
           (aD (n7 self2 fu (⟨t1.Kind,t1.Name,t1.Number,t1.Shaped,t1.Shape,t1.bC,t1.Kids⟩:ai) r9 length3 m4 m5 m6 m7)
             (fun ((r48,r49,r50,r51):Bool×Int×Bool×(List Int))=>
              some (.cD (r48,r49,r50,r51)))
             (fun ((e52,e53),(r54,r55,r56,r57))=>
              some (.ret (.ret (.ret (.inr ((e52,e53),(r54,r55,r56,r57))))))))
           (aD (nf self fu (⟨t1.Kind,t1.Name,t1.Number,t1.Shaped,t1.Shape,t1.bC,t1.Kids⟩:ai) m4 m5 m6 m7)
             (fun ((r58,r59,r60,r61):Bool×Int×Bool×(List Int))=>
              some (.cD (r58,r59,r60,r61)))
             (fun ((e62,e63),(r64,r65,r66,r67))=>
              some (.ret (.ret (.ret (.inr ((e62,e63),(r64,r65,r66,r67)))))))):Option (Ex Wa (Ex Wa (Ex Wa Wd)))) fun ((m68,m69,m70,m71):Bool×Int×Bool×(List Int))=>
         some (.cD (m68,m69,m70,m71))):Option (Ex Wa (Ex Wa Wd))) fun ((m72,m73,m74,m75):Bool×Int×Bool×(List Int))=>
       some (.cD (m72,m73,m74,m75))):Option (Ex Wa Wd)) fun ((m76,m77,m78,m79):Bool×Int×Bool×(List Int))=>
    some (.inl (m76,m77,m78,m79))))
def ea (self:ai→Bool→Int→Bool→(List Int)→Option Wd):Nat→ai→Int→Int→Bool→Int→Bool→(List Int)→Option Wd
 | 0=>fun _ _ _ _ _ _ _=>none
 | fu+1=>kh self (ea self fu) (fu+1)
def oz (self:ai→Bool→Int→Bool→(List Int)→Option Wd) (fu:Nat) (t1:ai) (m2:Bool) (m3:Int) (m4:Bool) (m5:List Int):Option Wd:=
 (qJ fu (⟨t1.Kind,t1.Name,t1.Number,t1.Shaped,t1.Shape,t1.bC,t1.Kids⟩:ai)).bind fun (r6:Bool)=>
 cond (!r6)
  ((cL fu m2 (wrap .i64 (m3+1)) m4 m5).bind fun ((r7,r8,r9,r10):Bool×Int×Bool×(List Int))=>
   bif Nat.beq (List.length r10) (List.length m5) then
   some (.inr ((7,0),(r7,r8,r9,r10)))
   else none)
  ((cond m4 (some (m2,wrap .i64 (m3+1),true)) (some (m2,wrap .i64 (m3+1),decide ((wrap .i64 (m3+1))>64)))).bind fun ((m11,m12,m13):Bool×Int×Bool)=>
   bx (fun r=>r) (cond (t1.Kind==5)
     ((bl fu [(ByteArray.mk #[108,101,116,32])] m11 m12 m13 m5).bind fun ((r14,r15,r16,r17):Bool×Int×Bool×(List Int))=>
     aD (ey fu t1.Name r14 r15 r16 r17)
      (fun ((r18,r19,r20,r21):Bool×Int×Bool×(List Int))=>
       (bl fu [(ByteArray.mk #[32,61,32])] r18 r19 r20 r21).bind fun ((r22,r23,r24,r25):Bool×Int×Bool×(List Int))=>
       (idx t1.Kids 0).bind fun x26=>
       aD (self x26 r22 r23 r24 r25)
        (fun ((r27,r28,r29,r30):Bool×Int×Bool×(List Int))=>
         (bl fu [(ByteArray.mk #[32,105,110,32])] r27 r28 r29 r30).bind fun ((r31,r32,r33,r34):Bool×Int×Bool×(List Int))=>
         (idx t1.Kids 1).bind fun x35=>
         aD (self x35 r31 r32 r33 r34)
          (fun ((r36,r37,r38,r39):Bool×Int×Bool×(List Int))=>
           some (.cD (r36,r37,r38,r39)))
          (fun ((e40,e41),(r42,r43,r44,r45))=>
           ((cL fu r42 r43 r44 r45).bind fun ((r46,r47,r48,r49):Bool×Int×Bool×(List Int))=>
            bif Nat.beq (List.length r49) (List.length r45) then
            some (.inr ((e40,e41),(r46,r47,r48,r49)))
            else none).bind fun r=>some (.ret r)))
        (fun ((e50,e51),(r52,r53,r54,r55))=>
         ((cL fu r52 r53 r54 r55).bind fun ((r56,r57,r58,r59):Bool×Int×Bool×(List Int))=>
          bif Nat.beq (List.length r59) (List.length r55) then
          some (.inr ((e50,e51),(r56,r57,r58,r59)))
          else none).bind fun r=>some (.ret r)))
      (fun ((e60,e61),(r62,r63,r64,r65))=>
       ((cL fu r62 r63 r64 r65).bind fun ((r66,r67,r68,r69):Bool×Int×Bool×(List Int))=>
        bif Nat.beq (List.length r69) (List.length r65) then
        some (.inr ((e60,e61),(r66,r67,r68,r69)))
        else none).bind fun r=>some (.ret r)))
     (bx (fun r=>r) (cond (t1.Kind==6)
       ((bl fu [(ByteArray.mk #[114,101,112,101,97,116,32])] m11 m12 m13 m5).bind fun ((r70,r71,r72,r73):Bool×Int×Bool×(List Int))=>
        aD (ga fu t1.Number r70 r71 r72 r73)
         (fun ((r74,r75,r76,r77):Bool×Int×Bool×(List Int))=>
          (bl fu [(ByteArray.mk #[32])] r74 r75 r76 r77).bind fun ((r78,r79,r80,r81):Bool×Int×Bool×(List Int))=>
          aD (ey fu t1.Name r78 r79 r80 r81)
           (fun ((r82,r83,r84,r85):Bool×Int×Bool×(List Int))=>
            (bl fu [(ByteArray.mk #[32,61,32])] r82 r83 r84 r85).bind fun ((r86,r87,r88,r89):Bool×Int×Bool×(List Int))=>
            (idx t1.Kids 0).bind fun x90=>
            aD (self x90 r86 r87 r88 r89)
             (fun ((r91,r92,r93,r94):Bool×Int×Bool×(List Int))=>
              (bl fu [(ByteArray.mk #[32,119,105,116,104,32])] r91 r92 r93 r94).bind fun ((r95,r96,r97,r98):Bool×Int×Bool×(List Int))=>
              (idx t1.Kids 1).bind fun x99=>
              aD (self x99 r95 r96 r97 r98)
               (fun ((r100,r101,r102,r103):Bool×Int×Bool×(List Int))=>
                some (.cD (r100,r101,r102,r103)))
               (fun ((e104,e105),(r106,r107,r108,r109))=>
                (((cL fu r106 r107 r108 r109).bind fun ((r110,r111,r112,r113):Bool×Int×Bool×(List Int))=>
                  bif Nat.beq (List.length r113) (List.length r109) then
                  some (.inr ((e104,e105),(r110,r111,r112,r113)))
                  else none).bind fun r=>some (.ret r)).bind fun r=>some (.ret r)))
             (fun ((e114,e115),(r116,r117,r118,r119))=>
              (((cL fu r116 r117 r118 r119).bind fun ((r120,r121,r122,r123):Bool×Int×Bool×(List Int))=>
                bif Nat.beq (List.length r123) (List.length r119) then
                some (.inr ((e114,e115),(r120,r121,r122,r123)))
                else none).bind fun r=>some (.ret r)).bind fun r=>some (.ret r)))
           (fun ((e124,e125),(r126,r127,r128,r129))=>
            (((cL fu r126 r127 r128 r129).bind fun ((r130,r131,r132,r133):Bool×Int×Bool×(List Int))=>
              bif Nat.beq (List.length r133) (List.length r129) then
              some (.inr ((e124,e125),(r130,r131,r132,r133)))
              else none).bind fun r=>some (.ret r)).bind fun r=>some (.ret r)))
         (fun ((e134,e135),(r136,r137,r138,r139))=>
          (((cL fu r136 r137 r138 r139).bind fun ((r140,r141,r142,r143):Bool×Int×Bool×(List Int))=>
            bif Nat.beq (List.length r143) (List.length r139) then
            some (.inr ((e134,e135),(r140,r141,r142,r143)))
            else none).bind fun r=>some (.ret r)).bind fun r=>some (.ret r)))
       (aD (ea self fu (⟨t1.Kind,t1.Name,t1.Number,t1.Shaped,t1.Shape,t1.bC,t1.Kids⟩:ai) 0 1 m11 m12 m13 m5)
         (fun ((r144,r145,r146,r147):Bool×Int×Bool×(List Int))=>
          some (.cD (r144,r145,r146,r147)))
         (fun ((e148,e149),(r150,r151,r152,r153))=>
          (((cL fu r150 r151 r152 r153).bind fun ((r154,r155,r156,r157):Bool×Int×Bool×(List Int))=>
            bif Nat.beq (List.length r157) (List.length r153) then
            some (.inr ((e148,e149),(r154,r155,r156,r157)))
            else none).bind fun r=>some (.ret r)).bind fun r=>some (.ret r))):Option (Ex Wa (Ex Wa Wd))) fun ((m158,m159,m160,m161):Bool×Int×Bool×(List Int))=>
     some (.cD (m158,m159,m160,m161))):Option (Ex Wa Wd)) fun ((m162,m163,m164,m165):Bool×Int×Bool×(List Int))=>
   (cL fu m162 m163 m164 m165).bind fun ((r166,r167,r168,r169):Bool×Int×Bool×(List Int))=>
   bif Nat.beq (List.length r169) (List.length m165) then
   some (.inl (r166,r167,r168,r169))
   else none)
def cq:Nat→ai→Bool→Int→Bool→(List Int)→Option Wd
 | 0=>fun _ _ _ _ _=>none
 | fu+1=>oz (cq fu) (fu+1)
def gF (fu:Nat) (f1:br):Int×Bool×Int×Bool×(List Int)→Option Wt:=fun (v18,m19,m20,m21,m22)=>
 cond (decide (v18<(f1.cy.length:Int)))
  ((idx f1.cy v18).bind fun x23=>
   (cond (decide (v18>0))
     ((bl fu [(ByteArray.mk #[44,32])] m19 m20 m21 m22).bind fun ((r24,r25,r26,r27):Bool×Int×Bool×(List Int))=>
     some (r24,r25,r26,r27))
     (some (m19,m20,m21,m22))).bind fun ((m28,m29,m30,m31):Bool×Int×Bool×(List Int))=>
   aD (ey fu x23.Name m28 m29 m30 m31)
    (fun ((r32,r33,r34,r35):Bool×Int×Bool×(List Int))=>
     (bl fu [(ByteArray.mk #[58,32])] r32 r33 r34 r35).bind fun ((r36,r37,r38,r39):Bool×Int×Bool×(List Int))=>
     aD (jc fu x23.nz r36 r37 r38 r39)
      (fun ((r40,r41,r42,r43):Bool×Int×Bool×(List Int))=>
       some (.inl (wrap .i64 (v18+1),r40,r41,r42,r43)))
      (fun ((e44,e45),(r46,r47,r48,r49))=>
       some (.inr (.ret (.inr ((e44,e45),(r46,r47,r48,r49)))))))
    (fun ((e50,e51),(r52,r53,r54,r55))=>
     some (.inr (.ret (.inr ((e50,e51),(r52,r53,r54,r55)))))))
  (some (.inr (.cD (m19,m20,m21,m22))))
def kV (fu:Nat) (f1:br) (m2:Bool) (m3:Int) (m4:Bool) (m5:List Int):Option Wd:=
 (bl fu [(ByteArray.mk #[102,110,32])] m2 m3 m4 m5).bind fun ((r6,r7,r8,r9):Bool×Int×Bool×(List Int))=>
 aD (ey fu f1.Name r6 r7 r8 r9)
  (fun ((r10,r11,r12,r13):Bool×Int×Bool×(List Int))=>
   (bl fu [(ByteArray.mk #[40])] r10 r11 r12 r13).bind fun ((r14,r15,r16,r17):Bool×Int×Bool×(List Int))=>
   bx (fun r=>r) (aX (gF fu f1) fu (0,r14,r15,r16,r17):Option (Ex Wa Wd)) fun ((m56,m57,m58,m59):Bool×Int×Bool×(List Int))=>
   (bl fu [(ByteArray.mk #[41,32,61,32])] m56 m57 m58 m59).bind fun ((r60,r61,r62,r63):Bool×Int×Bool×(List Int))=>
   aD (cq fu (⟨f1.Body.Kind,f1.Body.Name,f1.Body.Number,f1.Body.Shaped,f1.Body.Shape,f1.Body.bC,f1.Body.Kids⟩:ai) r60 r61 r62 r63)
    (fun ((r64,r65,r66,r67):Bool×Int×Bool×(List Int))=>
     (bl fu [(ByteArray.mk #[59,10])] r64 r65 r66 r67).bind fun ((r68,r69,r70,r71):Bool×Int×Bool×(List Int))=>
     some (.inl (r68,r69,r70,r71)))
    (fun ((e72,e73),(r74,r75,r76,r77))=>
     some (.inr ((e72,e73),(r74,r75,r76,r77)))))
  (fun ((e78,e79),(r80,r81,r82,r83))=>
   some (.inr ((e78,e79),(r80,r81,r82,r83))))
def hZ (fu:Nat) (p1:List br):Int×Bool×Int×Bool×(List Int)→Option (Wh⊕(Ex Wa (Wq⊕Wo))):=fun (v6,m7,m8,m9,m10)=>
 cond (decide (v6<(p1.length:Int)))
  ((idx p1 v6).bind fun x11=>
   aD (kV fu (⟨x11.Name,x11.cy,(⟨x11.Body.Kind,x11.Body.Name,x11.Body.Number,x11.Body.Shaped,x11.Body.Shape,x11.Body.bC,x11.Body.Kids⟩:ai)⟩:br) m7 m8 m9 m10)
    (fun ((r12,r13,r14,r15):Bool×Int×Bool×(List Int))=>
     some (.inl (wrap .i64 (v6+1),r12,r13,r14,r15)))
    (fun ((e16,e17),(r18,r19,r20,r21))=>
     some (.inr (.ret (.inl ((⟨e16,e17⟩:dQ),r18,r19,r20,r21))))))
  (some (.inr (.cD (m7,m8,m9,m10))))
def mH (fu:Nat) (p1:List br) (m2:Bool) (m3:Int) (m4:Bool) (m5:List Int):Option (Wq⊕Wo):=
 bx (fun r=>r) (aX (hZ fu p1) fu (0,m2,m3,m4,m5):Option (Ex Wa (Wq⊕Wo))) fun ((m22,m23,m24,m25):Bool×Int×Bool×(List Int))=>
 some (.inl ((⟨0,0⟩:dQ),m22,m23,m24,m25))
def nW (fu:Nat) (p1:List br) (m2:Bool) (m3:Int) (m4:Bool) (m5:List Int):Option Wq:=GV (mH fu p1 m2 m3 m4 m5)
def nX (fu:Nat) (m1:Bool) (m2:Int) (m3:Bool) (m4:List Int):Option Wh:=
 some ((m4.length:Int),m1,m2,m3,m4)
def qL (fu:Nat) (p1:List br):Option Wj:=
 (some (true,0,false,([]:List Int)):Option Wa).bind fun ((m2,m3,m4,m5):Bool×Int×Bool×(List Int))=>
 (nW fu p1 m2 m3 m4 m5).bind fun ((r6,r7,r8,r9,r10):dQ×Bool×Int×Bool×(List Int))=>
 cond (r6.A8 !=0)
  (some ((ByteArray.mk #[]),r6.A8))
  ((cond r9 (some (true,r7,r8,r9,r10)) ((nX fu r7 r8 r9 r10).bind fun ((r11,r12,r13,r14,r15):Int×Bool×Int×Bool×(List Int))=>
    bif Nat.beq (List.length r15) (List.length r10) then
    some (decide (r11>65536),r12,r13,r14,r15)
    else none)).bind fun ((v16,m17,m18,m19,m20):Bool×Bool×Int×Bool×(List Int))=>
   cond v16
    (some ((ByteArray.mk #[]),5))
    ((Rz m17 m18 m19 m20).bind fun ((r21,r22,r23,r24):ByteArray×Bool×Int×Bool)=>
    some (r21,0)))
def dy (fu:Nat) (r1:dR):Option (ByteArray):=
 cond ((r1.list.length:Int)==0)
  (some (ByteArray.mk #[]))
  ((idx r1.list 0).bind fun x2=>
   some x2.Text)
def eU (fu:Nat) (t1:ByteArray) (m2:List ah) (m3:Int) (m4:Int):Option (Bool×(List ah)×Int×Int):=
 (dy fu (⟨m2,m3,m4⟩:dR)).bind fun (r5:ByteArray)=>
 cond (!(r5.toList==t1.toList))
  (some (false,m2,m3,m4))
  ((dA ((0:Int)≤1∧1≤(m2.length:Int))).bind fun _=>
   some (true,jm m2 1 (m2.length:Int),m3,m4))
def gB (fu:Nat) (r1:dR):Option Int:=
 cond ((r1.list.length:Int)==0)
  (some r1.end_)
  ((idx r1.list 0).bind fun x2=>
   some x2.At)
def bF (fu:Nat) (t1:ByteArray) (m2:List ah) (m3:Int) (m4:Int):Option (((List ah)×Int×Int)⊕Wf):=
 (eU fu t1 m2 m3 m4).bind fun ((r5,r6,r7,r8):Bool×(List ah)×Int×Int)=>
 cond (!r5)
  ((gB fu (⟨r6,r7,r8⟩:dR)).bind fun (r9:Int)=>
   some (.inr ((7,r9),(r6,r7,r8))))
  (some (.inl (r6,r7,r8)))
def lh (fu:Nat) (m1:List ah) (m2:Int) (m3:Int):Option (Ws⊕Wf):=
 (dy fu (⟨m1,m2,m3⟩:dR)).bind fun (r4:ByteArray)=>
 cond (r4.toList==(ByteArray.mk #[]).toList)
  (some (.inr ((7,m2),(m1,m2,m3))))
  ((dA ((0:Int)≤1∧1≤(m1.length:Int))).bind fun _=>
   some (.inl (r4,jm m1 1 (m1.length:Int),m2,m3)))
def ez (fu:Nat) (m1:List ah) (m2:Int) (m3:Int):Option (Ws⊕Wf):=
 (dy fu (⟨m1,m2,m3⟩:dR)).bind fun (r4:ByteArray)=>
 (jF fu r4).bind fun (r5:Bool)=>
 cond (!r5)
  ((gB fu (⟨m1,m2,m3⟩:dR)).bind fun (r6:Int)=>
   some (.inr ((7,r6),(m1,m2,m3))))
  (aD (lh fu m1 m2 m3)
    (fun ((r7,r8,r9,r10):ByteArray×(List ah)×Int×Int)=>
     some (.inl (r7,r8,r9,r10)))
    (fun ((e11,e12),(r13,r14,r15))=>
     some (.inr ((e11,e12),(r13,r14,r15)))))
def gA (fu:Nat) (r1:dR):Option Bool:=
 ((dy fu r1).bind fun (r2:ByteArray)=>
  cond (!(r2.toList==(ByteArray.mk #[]).toList)) ((dy fu r1).bind fun (r3:ByteArray)=>
  (lF r3 0).bind fun c4=>
  (kW fu ((c4.toNat:Nat):Int)).bind fun (r5:Bool)=>
  some r5) (some false)).bind fun (v6:Bool)=>
 some v6
def gb (fu:Nat) (m1:List ah) (m2:Int) (m3:Int):Option ((Int×(List ah)×Int×Int)⊕Wf):=
 (gA fu (⟨m1,m2,m3⟩:dR)).bind fun (r4:Bool)=>
 cond (!r4)
  ((gB fu (⟨m1,m2,m3⟩:dR)).bind fun (r5:Int)=>
   some (.inr ((7,r5),(m1,m2,m3))))
  (aD (lh fu m1 m2 m3)
    (fun ((r6,r7,r8,r9):ByteArray×(List ah)×Int×Int)=>
     (pB r6 10 64).bind fun ((r10,r11):Int×Bool)=>
     some (.inl (r10,r7,r8,r9)))
    (fun ((e12,e13),(r14,r15,r16))=>
     some (.inr ((e12,e13),(r14,r15,r16)))))
def ng (fu:Nat):(List ah)×Int×Int×(List bh)→Option (Wn⊕(Ex Wn Wp)):=fun (m7,m8,m9,m10)=>
 (eU fu (ByteArray.mk #[93]) m7 m8 m9).bind fun ((r11,r12,r13,r14):Bool×(List ah)×Int×Int)=>
 cond (!r11)
  ((gA fu (⟨r12,r13,r14⟩:dR)).bind fun (r15:Bool)=>
   bx (fun r=>r) (cond r15
     (aD (gb fu r12 r13 r14)
      (fun ((r16,r17,r18,r19):Int×(List ah)×Int×Int)=>
       (dA (m10.length+[(⟨(ByteArray.mk #[]),r16⟩:bh)].length≤maxLen∧(m10.length+[(⟨(ByteArray.mk #[]),r16⟩:bh)].length)*24≤140737488355328)).bind fun _=>
       some (.cD (r17,r18,r19,m10++[(⟨(ByteArray.mk #[]),r16⟩:bh)])))
      (fun ((e20,e21),(r22,r23,r24))=>
       some (.ret (.inr (.ret (.inr ((e20,e21),(r22,r23,r24))))))))
     (aD (ez fu r12 r13 r14)
      (fun ((r25,r26,r27,r28):ByteArray×(List ah)×Int×Int)=>
       (dA (m10.length+[(⟨r25,0⟩:bh)].length≤maxLen∧(m10.length+[(⟨r25,0⟩:bh)].length)*24≤140737488355328)).bind fun _=>
       some (.cD (r26,r27,r28,m10++[(⟨r25,0⟩:bh)])))
      (fun ((e29,e30),(r31,r32,r33))=>
       some (.ret (.inr (.ret (.inr ((e29,e30),(r31,r32,r33)))))))):Option (Ex Wn (Wn⊕(Ex Wn Wp)))) fun ((m34,m35,m36,m37):(List ah)×Int×Int×(List bh))=>
   some (.inl (m34,m35,m36,m37)))
  (some (.inr (.cD (r12,r13,r14,m10))))
def jd (fu:Nat) (m1:List ah) (m2:Int) (m3:Int):Option Wp:=
 aD (bF fu (ByteArray.mk #[91]) m1 m2 m3)
  (fun ((r4,r5,r6):(List ah)×Int×Int)=>
   bx (fun r=>r) (aX (ng fu) fu (r4,r5,r6,([]:List bh)):Option (Ex Wn Wp)) fun ((m38,m39,m40,m41):(List ah)×Int×Int×(List bh))=>
   some (.inl (m41,m38,m39,m40)))
  (fun ((e42,e43),(r44,r45,r46))=>
   some (.inr ((e42,e43),(r44,r45,r46))))
def aE (fu:Nat) (m1:List ah) (m2:Int) (m3:Int):Option ((List ah)×Int×Int):=
 some (m1,m2,wrap .i64 (m3-1))
def mj (fu:Nat):(List ah)×Int×Int×(List Int)→Option (((List ah)×Int×Int×(List Int))⊕(Ex ((List ah)×Int×Int×(List Int)) Wv)):=fun (m7,m8,m9,m10)=>
 (eU fu (ByteArray.mk #[125]) m7 m8 m9).bind fun ((r11,r12,r13,r14):Bool×(List ah)×Int×Int)=>
 cond (!r11)
  (aD (gb fu r12 r13 r14)
    (fun ((r15,r16,r17,r18):Int×(List ah)×Int×Int)=>
     (dA (m10.length+[r15].length≤maxLen∧(m10.length+[r15].length)*8≤140737488355328)).bind fun _=>
     some (.inl (r16,r17,r18,m10++[r15])))
    (fun ((e19,e20),(r21,r22,r23))=>
     some (.inr (.ret (.inr ((e19,e20),(r21,r22,r23)))))))
  (some (.inr (.cD (r12,r13,r14,m10))))
def jz (fu:Nat) (m1:List ah) (m2:Int) (m3:Int):Option Wv:=
 aD (bF fu (ByteArray.mk #[123]) m1 m2 m3)
  (fun ((r4,r5,r6):(List ah)×Int×Int)=>
   bx (fun r=>r) (aX (mj fu) fu (r4,r5,r6,([]:List Int)):Option (Ex ((List ah)×Int×Int×(List Int)) Wv)) fun ((m24,m25,m26,m27):(List ah)×Int×Int×(List Int))=>
   some (.inl (m27,m24,m25,m26)))
  (fun ((e28,e29),(r30,r31,r32))=>
   some (.inr ((e28,e29),(r30,r31,r32))))
def kA (self:(List ah)→Int→Int→Option Wc) (fu:Nat):(List ah)×Int×Int×(List (List Int))×Int×ByteArray×Int×Bool×(List bh)→Option (Wm⊕(Ex Wm Wc)):=fun (m61,m62,m63,m64,m65,m66,m67,m68,m69)=>
 (dy fu (⟨m61,m62,m63⟩:dR)).bind fun (r70:ByteArray)=>
 cond (r70.toList==(ByteArray.mk #[123]).toList)
  (rT (aD (jz fu m61 m62 m63)
    (fun ((r71,r72,r73,r74):(List Int)×(List ah)×Int×Int)=>
     (dA (m64.length+[r71].length≤maxLen∧(m64.length+[r71].length)*24≤140737488355328)).bind fun _=>
     some (.inl (r72,r73,r74,m64++[r71],m65,m66,m67,m68,m69)))
    (fun ((e75,e76),(r77,r78,r79))=>
     some (.inr (.ret (.inr ((e75,e76),(r77,r78,r79))))))) (aD (jz fu m61 m62 m63)
    (fun ((r71,r72,r73,r74):(List Int)×(List ah)×Int×Int)=>
     pr ((dA (m64.length+[r71].length≤maxLen∧(m64.length+[r71].length)*24≤140737488355328)).bind fun _=>
     some (.inl (r72,r73,r74,m64++[r71],m65,m66,m67,m68,m69))))
    (fun ((e75,e76),(r77,r78,r79))=>
     some (.inr (.ret (.inr ((e75,e76),(r77,r78,r79))))))))
  (some (.inr (.cD (m61,m62,m63,m64,m65,m66,m67,m68,m69))))
def fV (self:(List ah)→Int→Int→Option Wc) (fu:Nat):(List ah)×Int×Int×(List ai)×Int×ByteArray×Int×Bool×(List bh)→Option (Wi⊕(Ex Wi Wc)):=fun (m92,m93,m94,m95,m96,m97,m98,m99,m100)=>
 (dy fu (⟨m92,m93,m94⟩:dR)).bind fun (r101:ByteArray)=>
 cond (!(r101.toList==(ByteArray.mk #[41]).toList))
  (bx (fun r=>r) (cond (decide ((m95.length:Int)>0))
     (aD (bF fu (ByteArray.mk #[44]) m92 m93 m94)
      (fun ((r102,r103,r104):(List ah)×Int×Int)=>
       some (.cD (r102,r103,r104)))
      (fun ((e105,e106),(r107,r108,r109))=>
       some (.ret (.inr (.ret (.inr ((e105,e106),(r107,r108,r109))))))))
     (some (.cD (m92,m93,m94))):Option (Ex ((List ah)×Int×Int) (Wi⊕(Ex Wi Wc)))) fun ((m110,m111,m112):(List ah)×Int×Int)=>
   rT (aD (self m110 m111 m112)
    (fun ((r113,r114,r115,r116):ai×(List ah)×Int×Int)=>
     (dA (m95.length+[r113].length≤maxLen∧(m95.length+[r113].length)*112≤140737488355328)).bind fun _=>
     some (.inl (r114,r115,r116,m95++[r113],m96,m97,m98,m99,m100)))
    (fun ((e117,e118),(r119,r120,r121))=>
     some (.inr (.ret (.inr ((e117,e118),(r119,r120,r121))))))) (aD (self m110 m111 m112)
    (fun ((r113,r114,r115,r116):ai×(List ah)×Int×Int)=>
     pr ((dA (m95.length+[r113].length≤maxLen∧(m95.length+[r113].length)*112≤140737488355328)).bind fun _=>
     some (.inl (r114,r115,r116,m95++[r113],m96,m97,m98,m99,m100))))
    (fun ((e117,e118),(r119,r120,r121))=>
     some (.inr (.ret (.inr ((e117,e118),(r119,r120,r121))))))))
  (some (.inr (.cD (m92,m93,m94,m95,m96,m97,m98,m99,m100))))
def kj (self:(List ah)→Int→Int→Option Wc) (fu:Nat) (m1:List ah) (m2:Int) (m3:Int):Option Wc:=
 (gA fu (⟨m1,m2,m3⟩:dR)).bind fun (r4:Bool)=>
 cond r4
  (aD (gb fu m1 m2 m3)
    (fun ((r5,r6,r7,r8):Int×(List ah)×Int×Int)=>
     some (.inl ((⟨1,(ByteArray.mk #[]),r5,false,([]:List bh),([]:List (List Int)),([]:List ai)⟩:ai),r6,r7,r8)))
    (fun ((e9,e10),(r11,r12,r13))=>
     some (.inr ((e9,e10),(r11,r12,r13)))))
  ((eU fu (ByteArray.mk #[40]) m1 m2 m3).bind fun ((r14,r15,r16,r17):Bool×(List ah)×Int×Int)=>
   cond r14
    (aD (self r15 r16 r17)
     (fun ((r18,r19,r20,r21):ai×(List ah)×Int×Int)=>
      aD (bF fu (ByteArray.mk #[41]) r19 r20 r21)
       (fun ((r22,r23,r24):(List ah)×Int×Int)=>
        some (.inl ((⟨r18.Kind,r18.Name,r18.Number,r18.Shaped,r18.Shape,r18.bC,r18.Kids⟩:ai),r22,r23,r24)))
       (fun ((e25,e26),(r27,r28,r29))=>
        some (.inr ((e25,e26),(r27,r28,r29)))))
     (fun ((e30,e31),(r32,r33,r34))=>
      some (.inr ((e30,e31),(r32,r33,r34)))))
    (aD (ez fu r15 r16 r17)
     (fun ((r35,r36,r37,r38):ByteArray×(List ah)×Int×Int)=>
      (dy fu (⟨r36,r37,r38⟩:dR)).bind fun (r39:ByteArray)=>
      (cond (!(r39.toList==(ByteArray.mk #[91]).toList)) (cond (!(r39.toList==(ByteArray.mk #[123]).toList)) (some (!(r39.toList==(ByteArray.mk #[40]).toList))) (some false)) (some false)).bind fun (v40:Bool)=>
      cond v40
       (some (.inl ((⟨2,r35,0,false,([]:List bh),([]:List (List Int)),([]:List ai)⟩:ai),r36,r37,r38)))
       ((dy fu (⟨r36,r37,r38⟩:dR)).bind fun (r41:ByteArray)=>
        bx (fun r=>r) (cond (r41.toList==(ByteArray.mk #[91]).toList)
          (aD (jd fu r36 r37 r38)
           (fun ((r42,r43,r44,r45):(List bh)×(List ah)×Int×Int)=>
            some (.cD (3,r35,0,true,r42,r43,r44,r45,([]:List (List Int)),([]:List ai))))
           (fun ((e46,e47),(r48,r49,r50))=>
            some (.ret (.inr ((e46,e47),(r48,r49,r50))))))
          (some (.cD (3,r35,0,false,([]:List bh),r36,r37,r38,([]:List (List Int)),([]:List ai)))):Option (Ex (Int×ByteArray×Int×Bool×(List bh)×(List ah)×Int×Int×(List (List Int))×(List ai)) Wc)) fun ((m51,m52,m53,m54,m55,m56,m57,m58,m59,m60):Int×ByteArray×Int×Bool×(List bh)×(List ah)×Int×Int×(List (List Int))×(List ai))=>
        bx (fun r=>r) (aX (kA self fu) fu (m56,m57,m58,m59,m51,m52,m53,m54,m55):Option (Ex Wm Wc)) fun ((m80,m81,m82,m83,m84,m85,m86,m87,m88):(List ah)×Int×Int×(List (List Int))×Int×ByteArray×Int×Bool×(List bh))=>
        aD (bF fu (ByteArray.mk #[40]) m80 m81 m82)
         (fun ((r89,r90,r91):(List ah)×Int×Int)=>
          bx (fun r=>r) (aX (fV self fu) fu (r89,r90,r91,m60,m84,m85,m86,m87,m88):Option (Ex Wi Wc)) fun ((m122,m123,m124,m125,m126,m127,m128,m129,m130):(List ah)×Int×Int×(List ai)×Int×ByteArray×Int×Bool×(List bh))=>
          aD (bF fu (ByteArray.mk #[41]) m122 m123 m124)
           (fun ((r131,r132,r133):(List ah)×Int×Int)=>
            some (.inl ((⟨m126,m127,m128,m129,m130,m83,m125⟩:ai),r131,r132,r133)))
           (fun ((e134,e135),(r136,r137,r138))=>
            some (.inr ((e134,e135),(r136,r137,r138)))))
         (fun ((e139,e140),(r141,r142,r143))=>
          some (.inr ((e139,e140),(r141,r142,r143))))))
     (fun ((e144,e145),(r146,r147,r148))=>
      some (.inr ((e144,e145),(r146,r147,r148))))))
def fE (self:(List ah)→Int→Int→Option Wc) (fu:Nat) (m4:List ByteArray):ByteArray×Int×(List ah)×Int×Int→Option ((ByteArray×Int×(List ah)×Int×Int)⊕Ws):=fun (sign28,v29,m30,m31,m32)=>
 cond (decide (v29<(m4.length:Int)))
  ((idx m4 v29).bind fun x33=>
   (cond (sign28.toList==(ByteArray.mk #[]).toList) ((eU fu x33 m30 m31 m32).bind fun ((r34,r35,r36,r37):Bool×(List ah)×Int×Int)=>
    some (r34,r35,r36,r37)) (some (false,m30,m31,m32))).bind fun ((v38,m39,m40,m41):Bool×(List ah)×Int×Int)=>
   (cond v38
     (some x33)
     (some sign28)).bind fun (sign42:ByteArray)=>
   some (.inl (sign42,wrap .i64 (v29+1),m39,m40,m41)))
  (some (.inr (sign28,m30,m31,m32)))
def jS (self:(List ah)→Int→Int→Option Wc) (fu:Nat) (m4:List ByteArray):Int×(List ah)×Int×Int×Int×ByteArray×Int×Bool×(List bh)×(List (List Int))×(List ai)×Int×ByteArray×Int×Bool×(List bh)×(List (List Int))×(List ai)→Option Wl:=fun (n9,m10,m11,m12,m13,m14,m15,m16,m17,m18,m19,m20,m21,m22,m23,m24,m25,m26)=>
 (gB fu (⟨m10,m11,m12⟩:dR)).bind fun (r27:Int)=>
 (aX (fE self fu m4) fu ((ByteArray.mk #[]),0,m10,m11,m12)).bind fun ((sign43,m44,m45,m46):ByteArray×(List ah)×Int×Int)=>
 cond (sign43.toList==(ByteArray.mk #[]).toList)
  (some (.inr (.ret (.inl ((⟨m20,m21,m22,m23,m24,m25,m26⟩:ai),m44,m45,m46,m4)))))
  (cond (decide (n9>64))
    (some (.inr (.ret (.inr ((5,r27),(m44,m45,m46,m4))))))
    (pr (aD (kj self fu m44 m45 m46)
     (fun ((r47,r48,r49,r50):ai×(List ah)×Int×Int)=>
      some (.inl (wrap .i64 (n9+1),r48,r49,r50,m13,m14,m15,m16,m17,m18,m19,4,sign43,0,false,([]:List bh),([]:List (List Int)),[(⟨m20,m21,m22,m23,m24,m25,m26⟩:ai),r47])))
     (fun ((e51,e52),(r53,r54,r55))=>
      some (.inr (.ret (.inr ((e51,e52),(r53,r54,r55,m4)))))))))
def jB (self:(List ah)→Int→Int→Option Wc) (fu:Nat) (m1:List ah) (m2:Int) (m3:Int) (m4:List ByteArray):Option We:=
 aD (kj self fu m1 m2 m3)
  (fun ((r5,r6,r7,r8):ai×(List ah)×Int×Int)=>
   bx (fun r=>r) (aX (jS self fu m4) fu (1,r6,r7,r8,0,(ByteArray.mk #[]),0,false,([]:List bh),([]:List (List Int)),([]:List ai),r5.Kind,r5.Name,r5.Number,r5.Shaped,r5.Shape,r5.bC,r5.Kids):Option (Ex Unit We)) fun (_:Unit)=>
   none)
  (fun ((e56,e57),(r58,r59,r60))=>
   some (.inr ((e56,e57),(r58,r59,r60,m4))))
def kl (self:(List ah)→Int→Int→Option Wc) (fu:Nat) (m1:List ah) (m2:Int) (m3:Int):Option Wc:=
 aD (jB self fu m1 m2 m3 [(ByteArray.mk #[42])])
  (fun ((r4,r5,r6,r7,r8):ai×(List ah)×Int×Int×(List ByteArray))=>
   bif Nat.beq (List.length r8) (List.length [(ByteArray.mk #[42])]) then
   some (.inl ((⟨r4.Kind,r4.Name,r4.Number,r4.Shaped,r4.Shape,r4.bC,r4.Kids⟩:ai),r5,r6,r7))
   else none)
  (fun ((e9,e10),(r11,r12,r13,r14))=>
   bif Nat.beq (List.length r14) (List.length [(ByteArray.mk #[42])]) then
   some (.inr ((e9,e10),(r11,r12,r13)))
   else none)
def eC (self:(List ah)→Int→Int→Option Wc) (fu:Nat) (m4:List ByteArray):ByteArray×Int×(List ah)×Int×Int→Option ((ByteArray×Int×(List ah)×Int×Int)⊕Ws):=fun (sign28,v29,m30,m31,m32)=>
 cond (decide (v29<(m4.length:Int)))
  ((idx m4 v29).bind fun x33=>
   (cond (sign28.toList==(ByteArray.mk #[]).toList) ((eU fu x33 m30 m31 m32).bind fun ((r34,r35,r36,r37):Bool×(List ah)×Int×Int)=>
    some (r34,r35,r36,r37)) (some (false,m30,m31,m32))).bind fun ((v38,m39,m40,m41):Bool×(List ah)×Int×Int)=>
   (cond v38
     (some x33)
     (some sign28)).bind fun (sign42:ByteArray)=>
   some (.inl (sign42,wrap .i64 (v29+1),m39,m40,m41)))
  (some (.inr (sign28,m30,m31,m32)))
def jR (self:(List ah)→Int→Int→Option Wc) (fu:Nat) (m4:List ByteArray):Int×(List ah)×Int×Int×Int×ByteArray×Int×Bool×(List bh)×(List (List Int))×(List ai)×Int×ByteArray×Int×Bool×(List bh)×(List (List Int))×(List ai)→Option Wl:=fun (n9,m10,m11,m12,m13,m14,m15,m16,m17,m18,m19,m20,m21,m22,m23,m24,m25,m26)=>
 (gB fu (⟨m10,m11,m12⟩:dR)).bind fun (r27:Int)=>
 (aX (eC self fu m4) fu ((ByteArray.mk #[]),0,m10,m11,m12)).bind fun ((sign43,m44,m45,m46):ByteArray×(List ah)×Int×Int)=>
 cond (sign43.toList==(ByteArray.mk #[]).toList)
  (some (.inr (.ret (.inl ((⟨m20,m21,m22,m23,m24,m25,m26⟩:ai),m44,m45,m46,m4)))))
  (cond (decide (n9>64))
    (some (.inr (.ret (.inr ((5,r27),(m44,m45,m46,m4))))))
    (pr (aD (kl self fu m44 m45 m46)
     (fun ((r47,r48,r49,r50):ai×(List ah)×Int×Int)=>
      some (.inl (wrap .i64 (n9+1),r48,r49,r50,m13,m14,m15,m16,m17,m18,m19,4,sign43,0,false,([]:List bh),([]:List (List Int)),[(⟨m20,m21,m22,m23,m24,m25,m26⟩:ai),r47])))
     (fun ((e51,e52),(r53,r54,r55))=>
      some (.inr (.ret (.inr ((e51,e52),(r53,r54,r55,m4)))))))))
def jA (self:(List ah)→Int→Int→Option Wc) (fu:Nat) (m1:List ah) (m2:Int) (m3:Int) (m4:List ByteArray):Option We:=
 aD (kl self fu m1 m2 m3)
  (fun ((r5,r6,r7,r8):ai×(List ah)×Int×Int)=>
   bx (fun r=>r) (aX (jR self fu m4) fu (1,r6,r7,r8,0,(ByteArray.mk #[]),0,false,([]:List bh),([]:List (List Int)),([]:List ai),r5.Kind,r5.Name,r5.Number,r5.Shaped,r5.Shape,r5.bC,r5.Kids):Option (Ex Unit We)) fun (_:Unit)=>
   none)
  (fun ((e56,e57),(r58,r59,r60))=>
   some (.inr ((e56,e57),(r58,r59,r60,m4))))
def lS (self:(List ah)→Int→Int→Option Wc) (fu:Nat) (m1:List ah) (m2:Int) (m3:Int):Option Wc:=
 cond (decide ((wrap .i64 (m3+1))>64))
  ((gB fu (⟨m1,m2,wrap .i64 (m3+1)⟩:dR)).bind fun (r4:Int)=>
   (aE fu m1 m2 (wrap .i64 (m3+1))).bind fun ((r5,r6,r7):(List ah)×Int×Int)=>
   some (.inr ((5,r4),(r5,r6,r7))))
  ((eU fu (ByteArray.mk #[108,101,116]) m1 m2 (wrap .i64 (m3+1))).bind fun ((r8,r9,r10,r11):Bool×(List ah)×Int×Int)=>
   cond r8
    (aD (ez fu r9 r10 r11)
     (fun ((r12,r13,r14,r15):ByteArray×(List ah)×Int×Int)=>
      aD (bF fu (ByteArray.mk #[61]) r13 r14 r15)
       (fun ((r16,r17,r18):(List ah)×Int×Int)=>
        rT (aD (self r16 r17 r18)
         (fun ((r19,r20,r21,r22):ai×(List ah)×Int×Int)=>
          (dA (([]:List ai).length+[r19].length≤maxLen∧(([]:List ai).length+[r19].length)*112≤140737488355328)).bind fun _=>
          aD (bF fu (ByteArray.mk #[105,110]) r20 r21 r22)
           (fun ((r23,r24,r25):(List ah)×Int×Int)=>
            rT (aD (self r23 r24 r25)
             (fun ((r26,r27,r28,r29):ai×(List ah)×Int×Int)=>
              (dA ((([]:List ai)++[r19]).length+[r26].length≤maxLen∧((([]:List ai)++[r19]).length+[r26].length)*112≤140737488355328)).bind fun _=>
              (aE fu r27 r28 r29).bind fun ((r30,r31,r32):(List ah)×Int×Int)=>
              some (.inl ((⟨5,r12,0,false,([]:List bh),([]:List (List Int)),(([]:List ai)++[r19])++[r26]⟩:ai),r30,r31,r32)))
             (fun ((e33,e34),(r35,r36,r37))=>
              (aE fu r35 r36 r37).bind fun ((r38,r39,r40):(List ah)×Int×Int)=>
              some (.inr ((e33,e34),(r38,r39,r40))))) (aD (self r23 r24 r25)
             (fun ((r26,r27,r28,r29):ai×(List ah)×Int×Int)=>
              pr ((dA ((([]:List ai)++[r19]).length+[r26].length≤maxLen∧((([]:List ai)++[r19]).length+[r26].length)*112≤140737488355328)).bind fun _=>
              (aE fu r27 r28 r29).bind fun ((r30,r31,r32):(List ah)×Int×Int)=>
              some (.inl ((⟨5,r12,0,false,([]:List bh),([]:List (List Int)),(([]:List ai)++[r19])++[r26]⟩:ai),r30,r31,r32))))
             (fun ((e33,e34),(r35,r36,r37))=>
              (aE fu r35 r36 r37).bind fun ((r38,r39,r40):(List ah)×Int×Int)=>
              some (.inr ((e33,e34),(r38,r39,r40))))))
           (fun ((e41,e42),(r43,r44,r45))=>
            (aE fu r43 r44 r45).bind fun ((r46,r47,r48):(List ah)×Int×Int)=>
            some (.inr ((e41,e42),(r46,r47,r48)))))
         (fun ((e49,e50),(r51,r52,r53))=>
          (aE fu r51 r52 r53).bind fun ((r54,r55,r56):(List ah)×Int×Int)=>
          some (.inr ((e49,e50),(r54,r55,r56))))) (aD (self r16 r17 r18)
         (fun ((r19,r20,r21,r22):ai×(List ah)×Int×Int)=>
          pr ((dA (([]:List ai).length+[r19].length≤maxLen∧(([]:List ai).length+[r19].length)*112≤140737488355328)).bind fun _=>
          aD (bF fu (ByteArray.mk #[105,110]) r20 r21 r22)
           (fun ((r23,r24,r25):(List ah)×Int×Int)=>
            rT (aD (self r23 r24 r25)
             (fun ((r26,r27,r28,r29):ai×(List ah)×Int×Int)=>
              (dA ((([]:List ai)++[r19]).length+[r26].length≤maxLen∧((([]:List ai)++[r19]).length+[r26].length)*112≤140737488355328)).bind fun _=>
              (aE fu r27 r28 r29).bind fun ((r30,r31,r32):(List ah)×Int×Int)=>
              some (.inl ((⟨5,r12,0,false,([]:List bh),([]:List (List Int)),(([]:List ai)++[r19])++[r26]⟩:ai),r30,r31,r32)))
             (fun ((e33,e34),(r35,r36,r37))=>
              (aE fu r35 r36 r37).bind fun ((r38,r39,r40):(List ah)×Int×Int)=>
              some (.inr ((e33,e34),(r38,r39,r40))))) (aD (self r23 r24 r25)
             (fun ((r26,r27,r28,r29):ai×(List ah)×Int×Int)=>
              pr ((dA ((([]:List ai)++[r19]).length+[r26].length≤maxLen∧((([]:List ai)++[r19]).length+[r26].length)*112≤140737488355328)).bind fun _=>
              (aE fu r27 r28 r29).bind fun ((r30,r31,r32):(List ah)×Int×Int)=>
              some (.inl ((⟨5,r12,0,false,([]:List bh),([]:List (List Int)),(([]:List ai)++[r19])++[r26]⟩:ai),r30,r31,r32))))
             (fun ((e33,e34),(r35,r36,r37))=>
              (aE fu r35 r36 r37).bind fun ((r38,r39,r40):(List ah)×Int×Int)=>
              some (.inr ((e33,e34),(r38,r39,r40))))))
           (fun ((e41,e42),(r43,r44,r45))=>
            (aE fu r43 r44 r45).bind fun ((r46,r47,r48):(List ah)×Int×Int)=>
            some (.inr ((e41,e42),(r46,r47,r48))))))
         (fun ((e49,e50),(r51,r52,r53))=>
          (aE fu r51 r52 r53).bind fun ((r54,r55,r56):(List ah)×Int×Int)=>
          some (.inr ((e49,e50),(r54,r55,r56))))))
       (fun ((e57,e58),(r59,r60,r61))=>
        (aE fu r59 r60 r61).bind fun ((r62,r63,r64):(List ah)×Int×Int)=>
        some (.inr ((e57,e58),(r62,r63,r64)))))
     (fun ((e65,e66),(r67,r68,r69))=>
      (aE fu r67 r68 r69).bind fun ((r70,r71,r72):(List ah)×Int×Int)=>
      some (.inr ((e65,e66),(r70,r71,r72)))))
    ((eU fu (ByteArray.mk #[114,101,112,101,97,116]) r9 r10 r11).bind fun ((r73,r74,r75,r76):Bool×(List ah)×Int×Int)=>
    cond r73
     (aD (gb fu r74 r75 r76)
       (fun ((r77,r78,r79,r80):Int×(List ah)×Int×Int)=>
        aD (ez fu r78 r79 r80)
         (fun ((r81,r82,r83,r84):ByteArray×(List ah)×Int×Int)=>
          aD (bF fu (ByteArray.mk #[61]) r82 r83 r84)
           (fun ((r85,r86,r87):(List ah)×Int×Int)=>
            rT (aD (self r85 r86 r87)
             (fun ((r88,r89,r90,r91):ai×(List ah)×Int×Int)=>
              (dA (([]:List ai).length+[r88].length≤maxLen∧(([]:List ai).length+[r88].length)*112≤140737488355328)).bind fun _=>
              aD (bF fu (ByteArray.mk #[119,105,116,104]) r89 r90 r91)
               (fun ((r92,r93,r94):(List ah)×Int×Int)=>
                rT (aD (self r92 r93 r94)
                 (fun ((r95,r96,r97,r98):ai×(List ah)×Int×Int)=>
                  (dA ((([]:List ai)++[r88]).length+[r95].length≤maxLen∧((([]:List ai)++[r88]).length+[r95].length)*112≤140737488355328)).bind fun _=>
                  (aE fu r96 r97 r98).bind fun ((r99,r100,r101):(List ah)×Int×Int)=>
                  some (.inl ((⟨6,r81,r77,false,([]:List bh),([]:List (List Int)),(([]:List ai)++[r88])++[r95]⟩:ai),r99,r100,r101)))
                 (fun ((e102,e103),(r104,r105,r106))=>
                  (aE fu r104 r105 r106).bind fun ((r107,r108,r109):(List ah)×Int×Int)=>
                  some (.inr ((e102,e103),(r107,r108,r109))))) (aD (self r92 r93 r94)
                 (fun ((r95,r96,r97,r98):ai×(List ah)×Int×Int)=>
                  pr ((dA ((([]:List ai)++[r88]).length+[r95].length≤maxLen∧((([]:List ai)++[r88]).length+[r95].length)*112≤140737488355328)).bind fun _=>
                  (aE fu r96 r97 r98).bind fun ((r99,r100,r101):(List ah)×Int×Int)=>
                  some (.inl ((⟨6,r81,r77,false,([]:List bh),([]:List (List Int)),(([]:List ai)++[r88])++[r95]⟩:ai),r99,r100,r101))))
                 (fun ((e102,e103),(r104,r105,r106))=>
                  (aE fu r104 r105 r106).bind fun ((r107,r108,r109):(List ah)×Int×Int)=>
                  some (.inr ((e102,e103),(r107,r108,r109))))))
               (fun ((e110,e111),(r112,r113,r114))=>
                (aE fu r112 r113 r114).bind fun ((r115,r116,r117):(List ah)×Int×Int)=>
                some (.inr ((e110,e111),(r115,r116,r117)))))
             (fun ((e118,e119),(r120,r121,r122))=>
              (aE fu r120 r121 r122).bind fun ((r123,r124,r125):(List ah)×Int×Int)=>
              some (.inr ((e118,e119),(r123,r124,r125))))) (aD (self r85 r86 r87)
             (fun ((r88,r89,r90,r91):ai×(List ah)×Int×Int)=>
              pr ((dA (([]:List ai).length+[r88].length≤maxLen∧(([]:List ai).length+[r88].length)*112≤140737488355328)).bind fun _=>
              aD (bF fu (ByteArray.mk #[119,105,116,104]) r89 r90 r91)
               (fun ((r92,r93,r94):(List ah)×Int×Int)=>
                rT (aD (self r92 r93 r94)
                 (fun ((r95,r96,r97,r98):ai×(List ah)×Int×Int)=>
                  (dA ((([]:List ai)++[r88]).length+[r95].length≤maxLen∧((([]:List ai)++[r88]).length+[r95].length)*112≤140737488355328)).bind fun _=>
                  (aE fu r96 r97 r98).bind fun ((r99,r100,r101):(List ah)×Int×Int)=>
                  some (.inl ((⟨6,r81,r77,false,([]:List bh),([]:List (List Int)),(([]:List ai)++[r88])++[r95]⟩:ai),r99,r100,r101)))
                 (fun ((e102,e103),(r104,r105,r106))=>
                  (aE fu r104 r105 r106).bind fun ((r107,r108,r109):(List ah)×Int×Int)=>
                  some (.inr ((e102,e103),(r107,r108,r109))))) (aD (self r92 r93 r94)
                 (fun ((r95,r96,r97,r98):ai×(List ah)×Int×Int)=>
                  pr ((dA ((([]:List ai)++[r88]).length+[r95].length≤maxLen∧((([]:List ai)++[r88]).length+[r95].length)*112≤140737488355328)).bind fun _=>
                  (aE fu r96 r97 r98).bind fun ((r99,r100,r101):(List ah)×Int×Int)=>
                  some (.inl ((⟨6,r81,r77,false,([]:List bh),([]:List (List Int)),(([]:List ai)++[r88])++[r95]⟩:ai),r99,r100,r101))))
                 (fun ((e102,e103),(r104,r105,r106))=>
                  (aE fu r104 r105 r106).bind fun ((r107,r108,r109):(List ah)×Int×Int)=>
                  some (.inr ((e102,e103),(r107,r108,r109))))))
               (fun ((e110,e111),(r112,r113,r114))=>
                (aE fu r112 r113 r114).bind fun ((r115,r116,r117):(List ah)×Int×Int)=>
                some (.inr ((e110,e111),(r115,r116,r117))))))
             (fun ((e118,e119),(r120,r121,r122))=>
              (aE fu r120 r121 r122).bind fun ((r123,r124,r125):(List ah)×Int×Int)=>
              some (.inr ((e118,e119),(r123,r124,r125))))))
           (fun ((e126,e127),(r128,r129,r130))=>
            (aE fu r128 r129 r130).bind fun ((r131,r132,r133):(List ah)×Int×Int)=>
            some (.inr ((e126,e127),(r131,r132,r133)))))
         (fun ((e134,e135),(r136,r137,r138))=>
          (aE fu r136 r137 r138).bind fun ((r139,r140,r141):(List ah)×Int×Int)=>
          some (.inr ((e134,e135),(r139,r140,r141)))))
       (fun ((e142,e143),(r144,r145,r146))=>
        (aE fu r144 r145 r146).bind fun ((r147,r148,r149):(List ah)×Int×Int)=>
        some (.inr ((e142,e143),(r147,r148,r149)))))
     (aD (jA self fu r74 r75 r76 [(ByteArray.mk #[43]),(ByteArray.mk #[45])])
       (fun ((r150,r151,r152,r153,r154):ai×(List ah)×Int×Int×(List ByteArray))=>
        bif Nat.beq (List.length r154) (List.length [(ByteArray.mk #[43]),(ByteArray.mk #[45])]) then
        (aE fu r151 r152 r153).bind fun ((r155,r156,r157):(List ah)×Int×Int)=>
        some (.inl ((⟨r150.Kind,r150.Name,r150.Number,r150.Shaped,r150.Shape,r150.bC,r150.Kids⟩:ai),r155,r156,r157))
        else none)
       (fun ((e158,e159),(r160,r161,r162,r163))=>
        bif Nat.beq (List.length r163) (List.length [(ByteArray.mk #[43]),(ByteArray.mk #[45])]) then
        (aE fu r160 r161 r162).bind fun ((r164,r165,r166):(List ah)×Int×Int)=>
        some (.inr ((e158,e159),(r164,r165,r166)))
        else none))))
def gd:Nat→(List ah)→Int→Int→Option Wc
 | 0=>fun _ _ _=>none
 | fu+1=>lS (gd fu) (fu+1)
def gG (fu:Nat):(List ah)×Int×Int×ByteArray×Int×ByteArray×Int×Bool×(List bh)×(List (List Int))×(List ai)×(List cJ)→Option (Wg⊕(Ex Wg Wr)):=fun (m14,m15,m16,m17,m18,m19,m20,m21,m22,m23,m24,m25)=>
 (dy fu (⟨m14,m15,m16⟩:dR)).bind fun (r26:ByteArray)=>
 cond (!(r26.toList==(ByteArray.mk #[41]).toList))
  (bx (fun r=>r) (cond (decide ((m25.length:Int)>0))
     (aD (bF fu (ByteArray.mk #[44]) m14 m15 m16)
      (fun ((r27,r28,r29):(List ah)×Int×Int)=>
       some (.cD (r27,r28,r29)))
      (fun ((e30,e31),(r32,r33,r34))=>
       some (.ret (.inr (.ret (.inr ((e30,e31),(r32,r33,r34))))))))
     (some (.cD (m14,m15,m16))):Option (Ex ((List ah)×Int×Int) (Wg⊕(Ex Wg Wr)))) fun ((m35,m36,m37):(List ah)×Int×Int)=>
   aD (ez fu m35 m36 m37)
    (fun ((r38,r39,r40,r41):ByteArray×(List ah)×Int×Int)=>
     aD (bF fu (ByteArray.mk #[58]) r39 r40 r41)
      (fun ((r42,r43,r44):(List ah)×Int×Int)=>
       aD (jd fu r42 r43 r44)
        (fun ((r45,r46,r47,r48):(List bh)×(List ah)×Int×Int)=>
         (dA (m25.length+[(⟨r38,r45⟩:cJ)].length≤maxLen∧(m25.length+[(⟨r38,r45⟩:cJ)].length)*40≤140737488355328)).bind fun _=>
         some (.inl (r46,r47,r48,m17,m18,m19,m20,m21,m22,m23,m24,m25++[(⟨r38,r45⟩:cJ)])))
        (fun ((e49,e50),(r51,r52,r53))=>
         some (.inr (.ret (.inr ((e49,e50),(r51,r52,r53)))))))
      (fun ((e54,e55),(r56,r57,r58))=>
       some (.inr (.ret (.inr ((e54,e55),(r56,r57,r58)))))))
    (fun ((e59,e60),(r61,r62,r63))=>
     some (.inr (.ret (.inr ((e59,e60),(r61,r62,r63)))))))
  (some (.inr (.cD (m14,m15,m16,m17,m18,m19,m20,m21,m22,m23,m24,m25))))
def iQ (fu:Nat) (m1:List ah) (m2:Int) (m3:Int):Option Wr:=
 aD (bF fu (ByteArray.mk #[102,110]) m1 m2 m3)
  (fun ((r4,r5,r6):(List ah)×Int×Int)=>
   aD (ez fu r4 r5 r6)
    (fun ((r7,r8,r9,r10):ByteArray×(List ah)×Int×Int)=>
     aD (bF fu (ByteArray.mk #[40]) r8 r9 r10)
      (fun ((r11,r12,r13):(List ah)×Int×Int)=>
       bx (fun r=>r) (aX (gG fu) fu (r11,r12,r13,r7,0,(ByteArray.mk #[]),0,false,([]:List bh),([]:List (List Int)),([]:List ai),([]:List cJ)):Option (Ex Wg Wr)) fun ((m64,m65,m66,m67,m68,m69,m70,m71,m72,m73,m74,m75):(List ah)×Int×Int×ByteArray×Int×ByteArray×Int×Bool×(List bh)×(List (List Int))×(List ai)×(List cJ))=>
       aD (bF fu (ByteArray.mk #[41]) m64 m65 m66)
        (fun ((r76,r77,r78):(List ah)×Int×Int)=>
         aD (bF fu (ByteArray.mk #[61]) r76 r77 r78)
          (fun ((r79,r80,r81):(List ah)×Int×Int)=>
           aD (gd fu r79 r80 r81)
            (fun ((r82,r83,r84,r85):ai×(List ah)×Int×Int)=>
             aD (bF fu (ByteArray.mk #[59]) r83 r84 r85)
              (fun ((r86,r87,r88):(List ah)×Int×Int)=>
               some (.inl ((⟨m67,m75,(⟨r82.Kind,r82.Name,r82.Number,r82.Shaped,r82.Shape,r82.bC,r82.Kids⟩:ai)⟩:br),r86,r87,r88)))
              (fun ((e89,e90),(r91,r92,r93))=>
               some (.inr ((e89,e90),(r91,r92,r93)))))
            (fun ((e94,e95),(r96,r97,r98))=>
             some (.inr ((e94,e95),(r96,r97,r98)))))
          (fun ((e99,e100),(r101,r102,r103))=>
           some (.inr ((e99,e100),(r101,r102,r103)))))
        (fun ((e104,e105),(r106,r107,r108))=>
         some (.inr ((e104,e105),(r106,r107,r108)))))
      (fun ((e109,e110),(r111,r112,r113))=>
       some (.inr ((e109,e110),(r111,r112,r113)))))
    (fun ((e114,e115),(r116,r117,r118))=>
     some (.inr ((e114,e115),(r116,r117,r118)))))
  (fun ((e119,e120),(r121,r122,r123))=>
   some (.inr ((e119,e120),(r121,r122,r123))))
def nT (fu:Nat) (m1:Int) (m2:Int) (m3:List br):Option (Int×Int×(List br)):=
 (cond (m1 !=0)
   (some ([]:List br))
   (some m3)).bind fun (m4:List br)=>
 some (m1,m2,m4)
def qK (fu:Nat):(List ah)×Int×Int×(List br)→Option (((List ah)×Int×Int×(List br))⊕(Ex ((List ah)×Int×Int×(List br)) (((List br)×dQ)⊕Wo))):=fun (m7,m8,m9,m10)=>
 cond (decide ((m7.length:Int)>0))
  (rT (aD (iQ fu m7 m8 m9)
    (fun ((r11,r12,r13,r14):br×(List ah)×Int×Int)=>
     (dA (m10.length+[r11].length≤maxLen∧(m10.length+[r11].length)*152≤140737488355328)).bind fun _=>
     some (.inl (r12,r13,r14,m10++[r11])))
    (fun ((e15,e16),(r17,r18,r19))=>
     ((nT fu e15 e16 m10).bind fun ((r20,r21,r22):Int×Int×(List br))=>
      some (.inl (r22,(⟨r20,r21⟩:dQ)))).bind fun r=>some (.inr (.ret r)))) (aD (iQ fu m7 m8 m9)
    (fun ((r11,r12,r13,r14):br×(List ah)×Int×Int)=>
     pr ((dA (m10.length+[r11].length≤maxLen∧(m10.length+[r11].length)*152≤140737488355328)).bind fun _=>
     some (.inl (r12,r13,r14,m10++[r11]))))
    (fun ((e15,e16),(r17,r18,r19))=>
     ((nT fu e15 e16 m10).bind fun ((r20,r21,r22):Int×Int×(List br))=>
      some (.inl (r22,(⟨r20,r21⟩:dQ)))).bind fun r=>some (.inr (.ret r)))))
  (some (.inr (.cD (m7,m8,m9,m10))))
def wh (fu:Nat) (s1:ByteArray):Option (((List br)×dQ)⊕Wo):=
 (mn fu s1).bind fun ((r2,r3):(List ah)×dQ)=>
 cond (r3.A8 !=0)
  ((pr (some (([]:List br),r3.A8,r3.At))).bind fun ((m4,m5,m6):(List br)×Int×Int)=>
   some (.inl (m4,(⟨m5,m6⟩:dQ))))
  (bx (fun r=>r) (aX (qK fu) fu (r2,(s1.size:Int),0,([]:List br)):Option (Ex ((List ah)×Int×Int×(List br)) (((List br)×dQ)⊕Wo))) fun ((m23,m24,m25,m26):(List ah)×Int×Int×(List br))=>
   (rT (pr (some (r3.A8,r3.At))) (some (r3.A8,r3.At))).bind fun ((m27,m28):Int×Int)=>
   (nT fu m27 m28 m26).bind fun ((r29,r30,r31):Int×Int×(List br))=>
   some (.inl (r31,(⟨r29,r30⟩:dQ))))
def sU (fu:Nat) (s1:ByteArray):Option ((List br)×dQ):=GV (wh fu s1)
def gK (fu:Nat) (a1:List bh) (b2:List bh):Bool×Int→Option Wk:=fun (v3,v4)=>
 cond (decide (v4<(a1.length:Int)))
  ((idx a1 v4).bind fun x5=>
   (idx b2 v4).bind fun x6=>
   cond (!(x5.Name==x6.Name&&(x5.lG==x6.lG&&true)))
    (some (.inr (.ret false)))
    (some (.inl (v3,wrap .i64 (v4+1)))))
  (some (.inr (.cD ())))
def iZ (fu:Nat) (a1:List bh) (b2:List bh):Option Bool:=
 cond ((a1.length:Int) !=(b2.length:Int))
  (some false)
  (bx (fun r=>r) (aX (gK fu a1 b2) fu (false,0):Option (Ex Unit Bool)) fun (_:Unit)=>
   some true)
def gr (fu:Nat) (a1:List (List Int)) (b2:List (List Int)) (v4:Int) (x7:List Int):Bool×Int→Option ((Bool×Int)⊕(Ex Bool Wk)):=fun (v8,v9)=>
 cond (decide (v9<(x7.length:Int)))
  ((idx a1 v4).bind fun x10=>
   (idx x10 v9).bind fun x11=>
   (idx b2 v4).bind fun x12=>
   (idx x12 v9).bind fun x13=>
   cond (x11 !=x13)
    (some (.inr (.ret (.inr (.ret false)))))
    (some (.inl (v8,wrap .i64 (v9+1)))))
  (some (.inr (.cD v8)))
def gq (fu:Nat) (a1:List (List Int)) (b2:List (List Int)):Bool×Int→Option Wk:=fun (v3,v4)=>
 cond (decide (v4<(a1.length:Int)))
  ((idx a1 v4).bind fun x5=>
   (idx b2 v4).bind fun x6=>
   cond ((x5.length:Int) !=(x6.length:Int))
    (some (.inr (.ret false)))
    ((idx a1 v4).bind fun x7=>
    bx (fun r=>r) (aX (gr fu a1 b2 v4 x7) fu (v3,0):Option (Ex Bool Wk)) fun (v14:Bool)=>
    some (.inl (v14,wrap .i64 (v4+1)))))
  (some (.inr (.cD ())))
def kI (fu:Nat) (a1:List (List Int)) (b2:List (List Int)):Option Bool:=
 cond ((a1.length:Int) !=(b2.length:Int))
  (some false)
  (bx (fun r=>r) (aX (gq fu a1 b2) fu (false,0):Option (Ex Unit Bool)) fun (_:Unit)=>
   some true)
def gL (self:ai→ai→Option Bool) (fu:Nat) (a1:ai) (b2:ai):Bool×Int→Option Wk:=fun (v6,v7)=>
 cond (decide (v7<(a1.Kids.length:Int)))
  ((idx a1.Kids v7).bind fun x8=>
   (idx b2.Kids v7).bind fun x9=>
   (self x8 x9).bind fun (r10:Bool)=>
   cond (!r10)
    (some (.inr (.ret false)))
    (some (.inl (v6,wrap .i64 (v7+1)))))
  (some (.inr (.cD ())))
def pQ (self:ai→ai→Option Bool) (fu:Nat) (a1:ai) (b2:ai):Option Bool:=
 (cond (a1.Kind !=b2.Kind) (some true) (cond (!(a1.Name.toList==b2.Name.toList)) (some true) (cond (a1.Number !=b2.Number) (some true) (cond (!(a1.Shaped==b2.Shaped)) (some true) ((iZ fu a1.Shape b2.Shape).bind fun (r3:Bool)=>
  cond (!r3) (some true) ((kI fu a1.bC b2.bC).bind fun (r4:Bool)=>
  cond (!r4) (some true) (some ((a1.Kids.length:Int) !=(b2.Kids.length:Int))))))))).bind fun (v5:Bool)=>
 cond v5
  (some false)
  (bx (fun r=>r) (aX (gL self fu a1 b2) fu (false,0):Option (Ex Unit Bool)) fun (_:Unit)=>
   some true)
def et:Nat→ai→ai→Option Bool
 | 0=>fun _ _=>none
 | fu+1=>pQ (et fu) (fu+1)
def fA (fu:Nat) (a1:List br) (b2:List br) (v4:Int) (x13:br):Bool×Int→Option ((Bool×Int)⊕(Ex Bool Wk)):=fun (v14,v15)=>
 cond (decide (v15<(x13.cy.length:Int)))
  (((idx a1 v4).bind fun x16=>
    (idx x16.cy v15).bind fun x17=>
    (idx b2 v4).bind fun x18=>
    (idx x18.cy v15).bind fun x19=>
    cond (!(x17.Name.toList==x19.Name.toList)) (some true) ((idx a1 v4).bind fun x20=>
    (idx x20.cy v15).bind fun x21=>
    (idx b2 v4).bind fun x22=>
    (idx x22.cy v15).bind fun x23=>
    (iZ fu x21.nz x23.nz).bind fun (r24:Bool)=>
    some (!r24))).bind fun (v25:Bool)=>
   cond v25
    (some (.inr (.ret (.inr (.ret false)))))
    (some (.inl (v14,wrap .i64 (v15+1)))))
  (some (.inr (.cD v14)))
def fx (fu:Nat) (a1:List br) (b2:List br):Bool×Int→Option Wk:=fun (v3,v4)=>
 cond (decide (v4<(a1.length:Int)))
  (((idx a1 v4).bind fun x5=>
    (idx b2 v4).bind fun x6=>
    cond (!(x5.Name.toList==x6.Name.toList)) (some true) ((idx a1 v4).bind fun x7=>
    (idx b2 v4).bind fun x8=>
    cond ((x7.cy.length:Int) !=(x8.cy.length:Int)) (some true) ((idx a1 v4).bind fun x9=>
    (idx b2 v4).bind fun x10=>
    (et fu (⟨x9.Body.Kind,x9.Body.Name,x9.Body.Number,x9.Body.Shaped,x9.Body.Shape,x9.Body.bC,x9.Body.Kids⟩:ai) (⟨x10.Body.Kind,x10.Body.Name,x10.Body.Number,x10.Body.Shaped,x10.Body.Shape,x10.Body.bC,x10.Body.Kids⟩:ai)).bind fun (r11:Bool)=>
    some (!r11)))).bind fun (v12:Bool)=>
   cond v12
    (some (.inr (.ret false)))
    ((idx a1 v4).bind fun x13=>
    bx (fun r=>r) (aX (fA fu a1 b2 v4 x13) fu (v3,0):Option (Ex Bool Wk)) fun (v26:Bool)=>
    some (.inl (v26,wrap .i64 (v4+1)))))
  (some (.inr (.cD ())))
def ju (fu:Nat) (a1:List br) (b2:List br):Option Bool:=
 cond ((a1.length:Int) !=(b2.length:Int))
  (some false)
  (bx (fun r=>r) (aX (fx fu a1 b2) fu (false,0):Option (Ex Unit Bool)) fun (_:Unit)=>
   some true)
def iB (fu:Nat) (p1:List br):Option Bool:=
 (mD fu).bind fun (r2:Bool)=>
 cond (!r2)
  (some false)
  ((qL fu p1).bind fun ((r3,r4):ByteArray×Int)=>
   cond (r4 !=0)
    (some true)
    ((sU fu r3).bind fun ((r5,r6):(List br)×dQ)=>
    (cond (r6.A8==0) (cond (r6.At==0) ((ju fu p1 r5).bind fun (r7:Bool)=>
     some r7) (some false)) (some false)).bind fun (v8:Bool)=>
    some v8))
end F
end
end Go.DN
