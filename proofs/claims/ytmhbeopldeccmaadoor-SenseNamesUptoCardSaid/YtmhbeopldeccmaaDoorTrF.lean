/-
  The functions, as Lean functions over data.
-/
import Derived.Test.YtmhbeopldeccmaaDoorTrS
set_option maxRecDepth 20000
set_option linter.unusedVariables false
set_option linter.unusedSimpArgs false
namespace Go.DN
open Go.AM
noncomputable section
open Go.IntKind (wrap)
open Int (toNat)
namespace F
abbrev Sg:Type:=(Bool×Int×Bool×(List Int))
abbrev Si:Type:=(Sg⊕((Int×Int)×Sg))
abbrev Sj:Type:=((ap×ap)⊕((Int×Int)×(ap×ap)))
abbrev Sk:Type:=(Int×Bool×Int×Bool×(List Int))
abbrev Sl:Type:=(Ex ((Option cM)×ap) ((Int×ap)⊕(Ex ap (Int⊕((Int×Int)×Unit)))))
abbrev Sm:Type:=((ByteArray×Int×ByteArray×Bool×Int)⊕(Ex (ByteArray×Int×ByteArray×Bool) (ByteArray×Int)))
abbrev Sn:Type:=((Bool×Int)⊕(Ex Unit Bool))
abbrev So:Type:=((Int×Int)⊕(Ex Unit Int))
abbrev Sp:Type:=((l4×Bool×Int×Bool×(List Int))⊕((Int×Int)×Unit))
abbrev Sq:Type:=((ByteArray×Int)⊕ByteArray)
abbrev Sr:Type:=(Sk⊕(Ex Sg Si))
abbrev Ss:Type:=(Int⊕(Ex Unit Sj))
def gG (fu:Nat) (s1:ByteArray) (m2:Bool) (m3:Int) (m4:Bool) (m5:List Int):Option (Int×Int×Bool×(List Int)):=
 (Oo m2 m3 m4 m5).bind fun ((r6,r7,r8):Int×Bool×(List Int))=>
 bif Nat.beq (List.length r8) (List.length m5) then
 (cj (r8.length+s1.size≤140737488355328)).bind fun _=>
 some ((s1.size:Int),r6,r7,r8++aF s1)
 else none
def jM (fu:Nat) (l1:List ByteArray):Int×Bool×Int×Bool×(List Int)→Option (Sk⊕Sg):=fun (v6,m7,m8,m9,m10)=>
 cond (decide (v6<(l1.length:Int)))
  ((idx l1 v6).bind fun x11=>
   (gG fu x11 m7 m8 m9 m10).bind fun ((r12,r13,r14,r15):Int×Int×Bool×(List Int))=>
   some (.inl (wrap .i64 (v6+1),false,r13,r14,r15)))
  (some (.inr (m7,m8,m9,m10)))
def a8 (fu:Nat) (l1:List ByteArray) (m2:Bool) (m3:Int) (m4:Bool) (m5:List Int):Option Sg:=
 (aW (jM fu l1) fu (0,m2,m3,m4,m5)).bind fun ((m16,m17,m18,m19):Bool×Int×Bool×(List Int))=>
 some (m16,m17,m18,m19)
def oL (fu:Nat) (c1:Int):Option Bool:=
 (cond (decide (c1≥97)) (cond (decide (c1≤122)) (some true) (cond (decide (c1≥65)) (cond (decide (c1≤90)) (some true) (some (c1==95))) (some (c1==95)))) (cond (decide (c1≥65)) (cond (decide (c1≤90)) (some true) (some (c1==95))) (some (c1==95)))).bind fun (v2:Bool)=>
 some v2
def qb (fu:Nat) (s1:ByteArray):Option Bool:=
 (cond (s1.toList==(ByteArray.mk #[102,110]).toList)
   (some (s1.toList==(ByteArray.mk #[102,110]).toList))
   ((cond (s1.toList==(ByteArray.mk #[108,101,116]).toList)
      (some (s1.toList==(ByteArray.mk #[108,101,116]).toList))
      ((cond (s1.toList==(ByteArray.mk #[105,110]).toList)
        (some (s1.toList==(ByteArray.mk #[105,110]).toList))
        ((cond (s1.toList==(ByteArray.mk #[114,101,112,101,97,116]).toList)
           (some (s1.toList==(ByteArray.mk #[114,101,112,101,97,116]).toList))
           (some (s1.toList==(ByteArray.mk #[119,105,116,104]).toList))).bind fun (v2:Bool)=>
         some v2)).bind fun (v3:Bool)=>
      some v3)).bind fun (v4:Bool)=>
    some v4)).bind fun (v5:Bool)=>
 cond v5
  (some true)
  (some false)
def sB (fu:Nat) (c1:Int):Option Bool:=
 (cond (decide (c1≥48)) (some (decide (c1≤57))) (some false)).bind fun (v2:Bool)=>
 some v2
def kf (fu:Nat) (s1:ByteArray):Bool×Int→Option Sn:=fun (v6,v7)=>
 cond (decide (v7<(s1.size:Int)))
  (((qL s1 v7).bind fun c8=>
    (oL fu ((c8.toNat:Nat):Int)).bind fun (r9:Bool)=>
    cond (!r9) ((qL s1 v7).bind fun c10=>
    (sB fu ((c10.toNat:Nat):Int)).bind fun (r11:Bool)=>
    some (!r11)) (some false)).bind fun (v12:Bool)=>
   cond v12
    (some (.inr (.ret false)))
    (some (.inl (v6,wrap .i64 (v7+1)))))
  (some (.inr (.bw ())))
def oc (fu:Nat) (s1:ByteArray):Option Bool:=
 (cond (s1.toList==(ByteArray.mk #[]).toList) (some true) ((qL s1 0).bind fun c2=>
  (oL fu ((c2.toNat:Nat):Int)).bind fun (r3:Bool)=>
  cond (!r3) (some true) ((qb fu s1).bind fun (r4:Bool)=>
  some r4))).bind fun (v5:Bool)=>
 cond v5
  (some false)
  (br (fun r=>r) (aW (kf fu s1) fu (false,0):Option (Ex Unit Bool)) fun (_:Unit)=>
   some true)
def eJ (fu:Nat) (s1:ByteArray) (m2:Bool) (m3:Int) (m4:Bool) (m5:List Int):Option Si:=
 (oc fu s1).bind fun (r6:Bool)=>
 cond (!r6)
  (some (.inr ((7,0),(m2,m3,m4,m5))))
  ((a8 fu [s1] m2 m3 m4 m5).bind fun ((r7,r8,r9,r10):Bool×Int×Bool×(List Int))=>
   some (.inl (r7,r8,r9,r10)))
def fW (fu:Nat) (n1:Int) (m2:Bool) (m3:Int) (m4:Bool) (m5:List Int):Option Si:=
 cond (decide (n1<0))
  (some (.inr ((7,0),(m2,m3,m4,m5))))
  ((Cv n1 10).bind fun (r6:ByteArray)=>
   (a8 fu [r6] m2 m3 m4 m5).bind fun ((r7,r8,r9,r10):Bool×Int×Bool×(List Int))=>
   some (.inl (r7,r8,r9,r10)))
def iF (fu:Nat) (l1:List iu):Int×Bool×Int×Bool×(List Int)→Option Sr:=fun (v10,m11,m12,m13,m14)=>
 cond (decide (v10<(l1.length:Int)))
  ((idx l1 v10).bind fun x15=>
   (cond (decide (v10>0))
     ((a8 fu [(ByteArray.mk #[32])] m11 m12 m13 m14).bind fun ((r16,r17,r18,r19):Bool×Int×Bool×(List Int))=>
     some (r16,r17,r18,r19))
     (some (m11,m12,m13,m14))).bind fun ((m20,m21,m22,m23):Bool×Int×Bool×(List Int))=>
   br (fun r=>r) (cond (x15.Name.toList==(ByteArray.mk #[]).toList)
     (aV (fW fu x15.iW m20 m21 m22 m23)
      (fun ((r24,r25,r26,r27):Bool×Int×Bool×(List Int))=>
       some (.bw (r24,r25,r26,r27)))
      (fun ((e28,e29),(r30,r31,r32,r33))=>
       some (.ret (.inr (.ret (.inr ((e28,e29),(r30,r31,r32,r33))))))))
     (cond (x15.iW !=0)
      (some (.ret (.inr (.ret (.inr ((7,0),(m20,m21,m22,m23)))))))
      (aV (eJ fu x15.Name m20 m21 m22 m23)
        (fun ((r34,r35,r36,r37):Bool×Int×Bool×(List Int))=>
         some (.bw (r34,r35,r36,r37)))
        (fun ((e38,e39),(r40,r41,r42,r43))=>
         some (.ret (.inr (.ret (.inr ((e38,e39),(r40,r41,r42,r43))))))))):Option (Ex Sg Sr)) fun ((m44,m45,m46,m47):Bool×Int×Bool×(List Int))=>
   some (.inl (wrap .i64 (v10+1),m44,m45,m46,m47)))
  (some (.inr (.bw (m11,m12,m13,m14))))
def ja (fu:Nat) (l1:List iu) (m2:Bool) (m3:Int) (m4:Bool) (m5:List Int):Option Si:=
 (a8 fu [(ByteArray.mk #[91])] m2 m3 m4 m5).bind fun ((r6,r7,r8,r9):Bool×Int×Bool×(List Int))=>
 br (fun r=>r) (aW (iF fu l1) fu (0,r6,r7,r8,r9):Option (Ex Sg Si)) fun ((m48,m49,m50,m51):Bool×Int×Bool×(List Int))=>
 (a8 fu [(ByteArray.mk #[93])] m48 m49 m50 m51).bind fun ((r52,r53,r54,r55):Bool×Int×Bool×(List Int))=>
 some (.inl (r52,r53,r54,r55))
def qc (fu:Nat) (t1:ai):Option Bool:=
 (cond (decide ((t1.Shape.length:Int)>0)) (some (!t1.Shaped)) (some false)).bind fun (v2:Bool)=>
 (cond v2
   (some v2)
   ((cond t1.Shaped (some (!(t1.Kind==3))) (some false)).bind fun (v3:Bool)=>
    (cond v3
      (some v3)
      ((cond (decide ((t1.aE.length:Int)>0)) (some (!(t1.Kind==3))) (some false)).bind fun (v4:Bool)=>
      some v4)).bind fun (v5:Bool)=>
    some v5)).bind fun (v6:Bool)=>
 cond v6
  (some false)
  ((cond (!(t1.Name.toList==(ByteArray.mk #[]).toList)) (some (t1.Kind==1)) (some false)).bind fun (v7:Bool)=>
   (cond v7
     (some v7)
     ((cond (t1.Number !=0) (cond (t1.Kind !=1) (some (t1.Kind !=6)) (some false)) (some false)).bind fun (v8:Bool)=>
     some v8)).bind fun (v9:Bool)=>
   cond v9
    (some false)
    ((cond (t1.Kind==1)
      (some (t1.Kind==1))
      (some (t1.Kind==2))).bind fun (v10:Bool)=>
    cond v10
     (some ((t1.Kids.length:Int)==0))
     ((cond (t1.Kind==4)
        (some (t1.Kind==4))
        ((cond (t1.Kind==5)
          (some (t1.Kind==5))
          (some (t1.Kind==6))).bind fun (v11:Bool)=>
        some v11)).bind fun (v12:Bool)=>
      cond v12
       (some ((t1.Kids.length:Int)==2))
       (some (t1.Kind==3)))))
def cK (fu:Nat) (m1:Bool) (m2:Int) (m3:Bool) (m4:List Int):Option Sg:=
 some (m1,wrap .i64 (m2-1),m3,m4)
def mK (fu:Nat) (t1:ai):Option Int:=
 (cond (t1.Kind==5) (some true) (some (t1.Kind==6))).bind fun (v2:Bool)=>
 cond v2
  (some 0)
  (cond (t1.Kind !=4)
    (some 3)
    (cond (t1.Name.toList==(ByteArray.mk #[42]).toList)
     (some 2)
     (some 1)))
def jn (self:ai→Bool→Int→Bool→(List Int)→Option Si) (fu:Nat) (x29:List Int):Int×Bool×Int×Bool×(List Int)→Option (Sk⊕(Ex Sg Sr)):=fun (v34,m35,m36,m37,m38)=>
 cond (decide (v34<(x29.length:Int)))
  ((idx x29 v34).bind fun x39=>
   (cond (decide (v34>0))
     ((a8 fu [(ByteArray.mk #[32])] m35 m36 m37 m38).bind fun ((r40,r41,r42,r43):Bool×Int×Bool×(List Int))=>
     some (r40,r41,r42,r43))
     (some (m35,m36,m37,m38))).bind fun ((m44,m45,m46,m47):Bool×Int×Bool×(List Int))=>
   aV (fW fu x39 m44 m45 m46 m47)
    (fun ((r48,r49,r50,r51):Bool×Int×Bool×(List Int))=>
     some (.inl (wrap .i64 (v34+1),r48,r49,r50,r51)))
    (fun ((e52,e53),(r54,r55,r56,r57))=>
     some (.inr (.ret (.inr (.ret (.inr ((e52,e53),(r54,r55,r56,r57)))))))))
  (some (.inr (.bw (m35,m36,m37,m38))))
def jm (self:ai→Bool→Int→Bool→(List Int)→Option Si) (fu:Nat) (t1:ai):Int×Bool×Int×Bool×(List Int)→Option Sr:=fun (v24,m25,m26,m27,m28)=>
 cond (decide (v24<(t1.aE.length:Int)))
  ((idx t1.aE v24).bind fun x29=>
   (a8 fu [(ByteArray.mk #[123])] m25 m26 m27 m28).bind fun ((r30,r31,r32,r33):Bool×Int×Bool×(List Int))=>
   br (fun r=>r) (aW (jn self fu x29) fu (0,r30,r31,r32,r33):Option (Ex Sg Sr)) fun ((m58,m59,m60,m61):Bool×Int×Bool×(List Int))=>
   (a8 fu [(ByteArray.mk #[125])] m58 m59 m60 m61).bind fun ((r62,r63,r64,r65):Bool×Int×Bool×(List Int))=>
   some (.inl (wrap .i64 (v24+1),r62,r63,r64,r65)))
  (some (.inr (.bw (m25,m26,m27,m28))))
def jl (self:ai→Bool→Int→Bool→(List Int)→Option Si) (fu:Nat) (t1:ai):Int×Bool×Int×Bool×(List Int)→Option Sr:=fun (v74,m75,m76,m77,m78)=>
 cond (decide (v74<(t1.Kids.length:Int)))
  ((idx t1.Kids v74).bind fun x79=>
   (cond (decide (v74>0))
     ((a8 fu [(ByteArray.mk #[44,32])] m75 m76 m77 m78).bind fun ((r80,r81,r82,r83):Bool×Int×Bool×(List Int))=>
     some (r80,r81,r82,r83))
     (some (m75,m76,m77,m78))).bind fun ((m84,m85,m86,m87):Bool×Int×Bool×(List Int))=>
   aV (self (⟨x79.Kind,x79.Name,x79.Number,x79.Shaped,x79.Shape,x79.aE,x79.Kids⟩:ai) m84 m85 m86 m87)
    (fun ((r88,r89,r90,r91):Bool×Int×Bool×(List Int))=>
     some (.inl (wrap .i64 (v74+1),r88,r89,r90,r91)))
    (fun ((e92,e93),(r94,r95,r96,r97))=>
     some (.inr (.ret (.inr ((e92,e93),(r94,r95,r96,r97)))))))
  (some (.inr (.bw (m75,m76,m77,m78))))
def mh (self:ai→Bool→Int→Bool→(List Int)→Option Si) (fu:Nat) (t1:ai) (m2:Bool) (m3:Int) (m4:Bool) (m5:List Int):Option Si:=
 aV (eJ fu t1.Name m2 m3 m4 m5)
  (fun ((r6,r7,r8,r9):Bool×Int×Bool×(List Int))=>
   br (fun r=>r) (cond t1.Shaped
     (aV (ja fu t1.Shape r6 r7 r8 r9)
       (fun ((r10,r11,r12,r13):Bool×Int×Bool×(List Int))=>
        some (.bw (r10,r11,r12,r13)))
       (fun ((e14,e15),(r16,r17,r18,r19))=>
        some (.ret (.inr ((e14,e15),(r16,r17,r18,r19))))))
     (some (.bw (r6,r7,r8,r9))):Option (Ex Sg Si)) fun ((m20,m21,m22,m23):Bool×Int×Bool×(List Int))=>
   br (fun r=>r) (aW (jm self fu t1) fu (0,m20,m21,m22,m23):Option (Ex Sg Si)) fun ((m66,m67,m68,m69):Bool×Int×Bool×(List Int))=>
   (a8 fu [(ByteArray.mk #[40])] m66 m67 m68 m69).bind fun ((r70,r71,r72,r73):Bool×Int×Bool×(List Int))=>
   br (fun r=>r) (aW (jl self fu t1) fu (0,r70,r71,r72,r73):Option (Ex Sg Si)) fun ((m98,m99,m100,m101):Bool×Int×Bool×(List Int))=>
   (a8 fu [(ByteArray.mk #[41])] m98 m99 m100 m101).bind fun ((r102,r103,r104,r105):Bool×Int×Bool×(List Int))=>
   some (.inl (r102,r103,r104,r105)))
  (fun ((e106,e107),(r108,r109,r110,r111))=>
   some (.inr ((e106,e107),(r108,r109,r110,r111))))
def nA (self:ai→Int→Int→Bool→Int→Bool→(List Int)→Option Si) (fu:Nat) (t1:ai) (s2:Int) (length3:Int) (m4:Bool) (m5:Int) (m6:Bool) (m7:List Int):Option Si:=
 (cond (!(t1.Name.toList==(ByteArray.mk #[43]).toList)) (cond (!(t1.Name.toList==(ByteArray.mk #[45]).toList)) (some (!(t1.Name.toList==(ByteArray.mk #[42]).toList))) (some false)) (some false)).bind fun (v8:Bool)=>
 cond v8
  (some (.inr ((7,0),(m4,m5,m6,m7))))
  ((cond m6 (some (m4,m5,true)) (some (m4,m5,decide (length3>64)))).bind fun ((m9,m10,m11):Bool×Int×Bool)=>
   (idx t1.Kids 0).bind fun x12=>
   (mK fu x12).bind fun (r13:Int)=>
   (cond (r13==s2)
     (some (wrap .i64 (length3+1)))
     (some 1)).bind fun (n14:Int)=>
   (idx t1.Kids 0).bind fun x15=>
   aV (self x15 s2 n14 m9 m10 m11 m7)
    (fun ((r16,r17,r18,r19):Bool×Int×Bool×(List Int))=>
     (a8 fu [(ByteArray.mk #[32]),t1.Name,(ByteArray.mk #[32])] r16 r17 r18 r19).bind fun ((r20,r21,r22,r23):Bool×Int×Bool×(List Int))=>
     (idx t1.Kids 1).bind fun x24=>
     aV (self x24 (wrap .i64 (s2+1)) 1 r20 r21 r22 r23)
      (fun ((r25,r26,r27,r28):Bool×Int×Bool×(List Int))=>
       some (.inl (r25,r26,r27,r28)))
      (fun ((e29,e30),(r31,r32,r33,r34))=>
       some (.inr ((e29,e30),(r31,r32,r33,r34)))))
    (fun ((e35,e36),(r37,r38,r39,r40))=>
     some (.inr ((e35,e36),(r37,r38,r39,r40)))))
def jN (self:ai→Bool→Int→Bool→(List Int)→Option Si) (self2:ai→Int→Int→Bool→Int→Bool→(List Int)→Option Si) (fu:Nat) (t1:ai) (least2:Int) (length3:Int) (m4:Bool) (m5:Int) (m6:Bool) (m7:List Int):Option Si:=
 (qc fu (⟨t1.Kind,t1.Name,t1.Number,t1.Shaped,t1.Shape,t1.aE,t1.Kids⟩:ai)).bind fun (r8:Bool)=>
 cond (!r8)
  (some (.inr ((7,0),(m4,m5,m6,m7))))
  ((mK fu (⟨t1.Kind,t1.Name,t1.Number,t1.Shaped,t1.Shape,t1.aE,t1.Kids⟩:ai)).bind fun (r9:Int)=>
   cond (decide (r9<least2))
    ((a8 fu [(ByteArray.mk #[40])] m4 m5 m6 m7).bind fun ((r10,r11,r12,r13):Bool×Int×Bool×(List Int))=>
    aV (self (⟨t1.Kind,t1.Name,t1.Number,t1.Shaped,t1.Shape,t1.aE,t1.Kids⟩:ai) r10 r11 r12 r13)
     (fun ((r14,r15,r16,r17):Bool×Int×Bool×(List Int))=>
      (a8 fu [(ByteArray.mk #[41])] r14 r15 r16 r17).bind fun ((r18,r19,r20,r21):Bool×Int×Bool×(List Int))=>
      some (.inl (r18,r19,r20,r21)))
     (fun ((e22,e23),(r24,r25,r26,r27))=>
      some (.inr ((e22,e23),(r24,r25,r26,r27)))))
    (br (fun r=>r) (cond (t1.Kind==1)
      (aV (fW fu t1.Number m4 m5 m6 m7)
        (fun ((r28,r29,r30,r31):Bool×Int×Bool×(List Int))=>
         some (.bw (r28,r29,r30,r31)))
        (fun ((e32,e33),(r34,r35,r36,r37))=>
         some (.ret (.inr ((e32,e33),(r34,r35,r36,r37))))))
      (br (fun r=>r) (cond (t1.Kind==2)
         (aV (eJ fu t1.Name m4 m5 m6 m7)
          (fun ((r38,r39,r40,r41):Bool×Int×Bool×(List Int))=>
           some (.bw (r38,r39,r40,r41)))
          (fun ((e42,e43),(r44,r45,r46,r47))=>
           some (.ret (.ret (.inr ((e42,e43),(r44,r45,r46,r47)))))))
         (br (fun r=>r) (cond (t1.Kind==4)
           (aV (nA self2 fu (⟨t1.Kind,t1.Name,t1.Number,t1.Shaped,t1.Shape,t1.aE,t1.Kids⟩:ai) r9 length3 m4 m5 m6 m7)
             (fun ((r48,r49,r50,r51):Bool×Int×Bool×(List Int))=>
              some (.bw (r48,r49,r50,r51)))
             (fun ((e52,e53),(r54,r55,r56,r57))=>
              some (.ret (.ret (.ret (.inr ((e52,e53),(r54,r55,r56,r57))))))))
           (aV (mh self fu (⟨t1.Kind,t1.Name,t1.Number,t1.Shaped,t1.Shape,t1.aE,t1.Kids⟩:ai) m4 m5 m6 m7)
             (fun ((r58,r59,r60,r61):Bool×Int×Bool×(List Int))=>
              some (.bw (r58,r59,r60,r61)))
             (fun ((e62,e63),(r64,r65,r66,r67))=>
              some (.ret (.ret (.ret (.inr ((e62,e63),(r64,r65,r66,r67)))))))):Option (Ex Sg (Ex Sg (Ex Sg Si)))) fun ((m68,m69,m70,m71):Bool×Int×Bool×(List Int))=>
         some (.bw (m68,m69,m70,m71))):Option (Ex Sg (Ex Sg Si))) fun ((m72,m73,m74,m75):Bool×Int×Bool×(List Int))=>
       some (.bw (m72,m73,m74,m75))):Option (Ex Sg Si)) fun ((m76,m77,m78,m79):Bool×Int×Bool×(List Int))=>
    some (.inl (m76,m77,m78,m79))))
def ej (self:ai→Bool→Int→Bool→(List Int)→Option Si):Nat→ai→Int→Int→Bool→Int→Bool→(List Int)→Option Si
 | 0=>fun _ _ _ _ _ _ _=>none
 | fu+1=>jN self (ej self fu) (fu+1)
def nJ (self:ai→Bool→Int→Bool→(List Int)→Option Si) (fu:Nat) (t1:ai) (m2:Bool) (m3:Int) (m4:Bool) (m5:List Int):Option Si:=
 (qc fu (⟨t1.Kind,t1.Name,t1.Number,t1.Shaped,t1.Shape,t1.aE,t1.Kids⟩:ai)).bind fun (r6:Bool)=>
 cond (!r6)
  ((cK fu m2 (wrap .i64 (m3+1)) m4 m5).bind fun ((r7,r8,r9,r10):Bool×Int×Bool×(List Int))=>
   bif Nat.beq (List.length r10) (List.length m5) then
   some (.inr ((7,0),(r7,r8,r9,r10)))
   else none)
  ((cond m4 (some (m2,wrap .i64 (m3+1),true)) (some (m2,wrap .i64 (m3+1),decide ((wrap .i64 (m3+1))>64)))).bind fun ((m11,m12,m13):Bool×Int×Bool)=>
   br (fun r=>r) (cond (t1.Kind==5)
     ((a8 fu [(ByteArray.mk #[108,101,116,32])] m11 m12 m13 m5).bind fun ((r14,r15,r16,r17):Bool×Int×Bool×(List Int))=>
     aV (eJ fu t1.Name r14 r15 r16 r17)
      (fun ((r18,r19,r20,r21):Bool×Int×Bool×(List Int))=>
       (a8 fu [(ByteArray.mk #[32,61,32])] r18 r19 r20 r21).bind fun ((r22,r23,r24,r25):Bool×Int×Bool×(List Int))=>
       (idx t1.Kids 0).bind fun x26=>
       aV (self x26 r22 r23 r24 r25)
        (fun ((r27,r28,r29,r30):Bool×Int×Bool×(List Int))=>
         (a8 fu [(ByteArray.mk #[32,105,110,32])] r27 r28 r29 r30).bind fun ((r31,r32,r33,r34):Bool×Int×Bool×(List Int))=>
         (idx t1.Kids 1).bind fun x35=>
         aV (self x35 r31 r32 r33 r34)
          (fun ((r36,r37,r38,r39):Bool×Int×Bool×(List Int))=>
           some (.bw (r36,r37,r38,r39)))
          (fun ((e40,e41),(r42,r43,r44,r45))=>
           ((cK fu r42 r43 r44 r45).bind fun ((r46,r47,r48,r49):Bool×Int×Bool×(List Int))=>
            bif Nat.beq (List.length r49) (List.length r45) then
            some (.inr ((e40,e41),(r46,r47,r48,r49)))
            else none).bind fun r=>some (.ret r)))
        (fun ((e50,e51),(r52,r53,r54,r55))=>
         ((cK fu r52 r53 r54 r55).bind fun ((r56,r57,r58,r59):Bool×Int×Bool×(List Int))=>
          bif Nat.beq (List.length r59) (List.length r55) then
          some (.inr ((e50,e51),(r56,r57,r58,r59)))
          else none).bind fun r=>some (.ret r)))
      (fun ((e60,e61),(r62,r63,r64,r65))=>
       ((cK fu r62 r63 r64 r65).bind fun ((r66,r67,r68,r69):Bool×Int×Bool×(List Int))=>
        bif Nat.beq (List.length r69) (List.length r65) then
        some (.inr ((e60,e61),(r66,r67,r68,r69)))
        else none).bind fun r=>some (.ret r)))
     (br (fun r=>r) (cond (t1.Kind==6)
       ((a8 fu [(ByteArray.mk #[114,101,112,101,97,116,32])] m11 m12 m13 m5).bind fun ((r70,r71,r72,r73):Bool×Int×Bool×(List Int))=>
        aV (fW fu t1.Number r70 r71 r72 r73)
         (fun ((r74,r75,r76,r77):Bool×Int×Bool×(List Int))=>
          (a8 fu [(ByteArray.mk #[32])] r74 r75 r76 r77).bind fun ((r78,r79,r80,r81):Bool×Int×Bool×(List Int))=>
          aV (eJ fu t1.Name r78 r79 r80 r81)
           (fun ((r82,r83,r84,r85):Bool×Int×Bool×(List Int))=>
            (a8 fu [(ByteArray.mk #[32,61,32])] r82 r83 r84 r85).bind fun ((r86,r87,r88,r89):Bool×Int×Bool×(List Int))=>
            (idx t1.Kids 0).bind fun x90=>
            aV (self x90 r86 r87 r88 r89)
             (fun ((r91,r92,r93,r94):Bool×Int×Bool×(List Int))=>
              (a8 fu [(ByteArray.mk #[32,119,105,116,104,32])] r91 r92 r93 r94).bind fun ((r95,r96,r97,r98):Bool×Int×Bool×(List Int))=>
              (idx t1.Kids 1).bind fun x99=>
              aV (self x99 r95 r96 r97 r98)
               (fun ((r100,r101,r102,r103):Bool×Int×Bool×(List Int))=>
                some (.bw (r100,r101,r102,r103)))
               (fun ((e104,e105),(r106,r107,r108,r109))=>
                (((cK fu r106 r107 r108 r109).bind fun ((r110,r111,r112,r113):Bool×Int×Bool×(List Int))=>
                  bif Nat.beq (List.length r113) (List.length r109) then
                  some (.inr ((e104,e105),(r110,r111,r112,r113)))
                  else none).bind fun r=>some (.ret r)).bind fun r=>some (.ret r)))
             (fun ((e114,e115),(r116,r117,r118,r119))=>
              (((cK fu r116 r117 r118 r119).bind fun ((r120,r121,r122,r123):Bool×Int×Bool×(List Int))=>
                bif Nat.beq (List.length r123) (List.length r119) then
                some (.inr ((e114,e115),(r120,r121,r122,r123)))
                else none).bind fun r=>some (.ret r)).bind fun r=>some (.ret r)))
           (fun ((e124,e125),(r126,r127,r128,r129))=>
            (((cK fu r126 r127 r128 r129).bind fun ((r130,r131,r132,r133):Bool×Int×Bool×(List Int))=>
              bif Nat.beq (List.length r133) (List.length r129) then
              some (.inr ((e124,e125),(r130,r131,r132,r133)))
              else none).bind fun r=>some (.ret r)).bind fun r=>some (.ret r)))
         (fun ((e134,e135),(r136,r137,r138,r139))=>
          (((cK fu r136 r137 r138 r139).bind fun ((r140,r141,r142,r143):Bool×Int×Bool×(List Int))=>
            bif Nat.beq (List.length r143) (List.length r139) then
            some (.inr ((e134,e135),(r140,r141,r142,r143)))
            else none).bind fun r=>some (.ret r)).bind fun r=>some (.ret r)))
       (aV (ej self fu (⟨t1.Kind,t1.Name,t1.Number,t1.Shaped,t1.Shape,t1.aE,t1.Kids⟩:ai) 0 1 m11 m12 m13 m5)
         (fun ((r144,r145,r146,r147):Bool×Int×Bool×(List Int))=>
          some (.bw (r144,r145,r146,r147)))
         (fun ((e148,e149),(r150,r151,r152,r153))=>
          (((cK fu r150 r151 r152 r153).bind fun ((r154,r155,r156,r157):Bool×Int×Bool×(List Int))=>
            bif Nat.beq (List.length r157) (List.length r153) then
            some (.inr ((e148,e149),(r154,r155,r156,r157)))
            else none).bind fun r=>some (.ret r)).bind fun r=>some (.ret r))):Option (Ex Sg (Ex Sg Si))) fun ((m158,m159,m160,m161):Bool×Int×Bool×(List Int))=>
     some (.bw (m158,m159,m160,m161))):Option (Ex Sg Si)) fun ((m162,m163,m164,m165):Bool×Int×Bool×(List Int))=>
   (cK fu m162 m163 m164 m165).bind fun ((r166,r167,r168,r169):Bool×Int×Bool×(List Int))=>
   bif Nat.beq (List.length r169) (List.length m165) then
   some (.inl (r166,r167,r168,r169))
   else none)
def cp:Nat→ai→Bool→Int→Bool→(List Int)→Option Si
 | 0=>fun _ _ _ _ _=>none
 | fu+1=>nJ (cp fu) (fu+1)
def gz (fu:Nat) (f1:bB):Int×Bool×Int×Bool×(List Int)→Option Sr:=fun (v18,m19,m20,m21,m22)=>
 cond (decide (v18<(f1.aB.length:Int)))
  ((idx f1.aB v18).bind fun x23=>
   (cond (decide (v18>0))
     ((a8 fu [(ByteArray.mk #[44,32])] m19 m20 m21 m22).bind fun ((r24,r25,r26,r27):Bool×Int×Bool×(List Int))=>
     some (r24,r25,r26,r27))
     (some (m19,m20,m21,m22))).bind fun ((m28,m29,m30,m31):Bool×Int×Bool×(List Int))=>
   aV (eJ fu x23.Name m28 m29 m30 m31)
    (fun ((r32,r33,r34,r35):Bool×Int×Bool×(List Int))=>
     (a8 fu [(ByteArray.mk #[58,32])] r32 r33 r34 r35).bind fun ((r36,r37,r38,r39):Bool×Int×Bool×(List Int))=>
     aV (ja fu x23.cV r36 r37 r38 r39)
      (fun ((r40,r41,r42,r43):Bool×Int×Bool×(List Int))=>
       some (.inl (wrap .i64 (v18+1),r40,r41,r42,r43)))
      (fun ((e44,e45),(r46,r47,r48,r49))=>
       some (.inr (.ret (.inr ((e44,e45),(r46,r47,r48,r49)))))))
    (fun ((e50,e51),(r52,r53,r54,r55))=>
     some (.inr (.ret (.inr ((e50,e51),(r52,r53,r54,r55)))))))
  (some (.inr (.bw (m19,m20,m21,m22))))
def kn (fu:Nat) (f1:bB) (m2:Bool) (m3:Int) (m4:Bool) (m5:List Int):Option Si:=
 (a8 fu [(ByteArray.mk #[102,110,32])] m2 m3 m4 m5).bind fun ((r6,r7,r8,r9):Bool×Int×Bool×(List Int))=>
 aV (eJ fu f1.Name r6 r7 r8 r9)
  (fun ((r10,r11,r12,r13):Bool×Int×Bool×(List Int))=>
   (a8 fu [(ByteArray.mk #[40])] r10 r11 r12 r13).bind fun ((r14,r15,r16,r17):Bool×Int×Bool×(List Int))=>
   br (fun r=>r) (aW (gz fu f1) fu (0,r14,r15,r16,r17):Option (Ex Sg Si)) fun ((m56,m57,m58,m59):Bool×Int×Bool×(List Int))=>
   (a8 fu [(ByteArray.mk #[41,32,61,32])] m56 m57 m58 m59).bind fun ((r60,r61,r62,r63):Bool×Int×Bool×(List Int))=>
   aV (cp fu (⟨f1.Body.Kind,f1.Body.Name,f1.Body.Number,f1.Body.Shaped,f1.Body.Shape,f1.Body.aE,f1.Body.Kids⟩:ai) r60 r61 r62 r63)
    (fun ((r64,r65,r66,r67):Bool×Int×Bool×(List Int))=>
     (a8 fu [(ByteArray.mk #[59,10])] r64 r65 r66 r67).bind fun ((r68,r69,r70,r71):Bool×Int×Bool×(List Int))=>
     some (.inl (r68,r69,r70,r71)))
    (fun ((e72,e73),(r74,r75,r76,r77))=>
     some (.inr ((e72,e73),(r74,r75,r76,r77)))))
  (fun ((e78,e79),(r80,r81,r82,r83))=>
   some (.inr ((e78,e79),(r80,r81,r82,r83))))
def gN (fu:Nat) (p1:List bB):Int×Bool×Int×Bool×(List Int)→Option (Sk⊕(Ex Sg Sp)):=fun (v6,m7,m8,m9,m10)=>
 cond (decide (v6<(p1.length:Int)))
  ((idx p1 v6).bind fun x11=>
   aV (kn fu (⟨x11.Name,x11.aB,(⟨x11.Body.Kind,x11.Body.Name,x11.Body.Number,x11.Body.Shaped,x11.Body.Shape,x11.Body.aE,x11.Body.Kids⟩:ai)⟩:bB) m7 m8 m9 m10)
    (fun ((r12,r13,r14,r15):Bool×Int×Bool×(List Int))=>
     some (.inl (wrap .i64 (v6+1),r12,r13,r14,r15)))
    (fun ((e16,e17),(r18,r19,r20,r21))=>
     some (.inr (.ret (.inl ((⟨e16,e17⟩:l4),r18,r19,r20,r21))))))
  (some (.inr (.bw (m7,m8,m9,m10))))
def lS (fu:Nat) (p1:List bB) (m2:Bool) (m3:Int) (m4:Bool) (m5:List Int):Option Sp:=
 br (fun r=>r) (aW (gN fu p1) fu (0,m2,m3,m4,m5):Option (Ex Sg Sp)) fun ((m22,m23,m24,m25):Bool×Int×Bool×(List Int))=>
 some (.inl ((⟨0,0⟩:l4),m22,m23,m24,m25))
def na (fu:Nat) (p1:List bB) (m2:Bool) (m3:Int) (m4:Bool) (m5:List Int):Option (l4×Bool×Int×Bool×(List Int)):=N1 (lS fu p1 m2 m3 m4 m5)
def nb (fu:Nat) (m1:Bool) (m2:Int) (m3:Bool) (m4:List Int):Option Sk:=
 some ((m4.length:Int),m1,m2,m3,m4)
def sC (fu:Nat) (p1:List bB):Option (ByteArray×Int):=
 (some (true,0,false,([]:List Int)):Option Sg).bind fun ((m2,m3,m4,m5):Bool×Int×Bool×(List Int))=>
 (na fu p1 m2 m3 m4 m5).bind fun ((r6,r7,r8,r9,r10):l4×Bool×Int×Bool×(List Int))=>
 cond (r6.OA !=0)
  (some ((ByteArray.mk #[]),r6.OA))
  ((cond r9 (some (true,r7,r8,r9,r10)) ((nb fu r7 r8 r9 r10).bind fun ((r11,r12,r13,r14,r15):Int×Bool×Int×Bool×(List Int))=>
    bif Nat.beq (List.length r15) (List.length r10) then
    some (decide (r11>65536),r12,r13,r14,r15)
    else none)).bind fun ((v16,m17,m18,m19,m20):Bool×Bool×Int×Bool×(List Int))=>
   cond v16
    (some ((ByteArray.mk #[]),5))
    ((Ou m17 m18 m19 m20).bind fun ((r21,r22,r23,r24):ByteArray×Bool×Int×Bool)=>
    some (r21,0)))
def ld (fu:Nat) (name1:ByteArray):Option (dN×Bool):=
 cond (name1.toList==(ByteArray.mk #[109,97,120]).toList)
  (some ((⟨6,false,[0],2⟩:dN),true))
  (cond (name1.toList==(ByteArray.mk #[108,101,115,115]).toList)
    (some ((⟨7,false,[0],2⟩:dN),true))
    (cond (name1.toList==(ByteArray.mk #[112,105,99,107]).toList)
     (some ((⟨8,false,[0],3⟩:dN),true))
     (cond (name1.toList==(ByteArray.mk #[115,112,114,101,97,100]).toList)
       (some ((⟨9,true,[1],1⟩:dN),true))
       (cond (name1.toList==(ByteArray.mk #[115,117,109]).toList)
        (some ((⟨10,false,[1],1⟩:dN),true))
        (cond (name1.toList==(ByteArray.mk #[116,117,114,110]).toList)
          (some ((⟨11,false,[1],1⟩:dN),true))
          (cond (name1.toList==(ByteArray.mk #[114,101,102,111,114,109]).toList)
           (some ((⟨12,true,[0],1⟩:dN),true))
           (cond (name1.toList==(ByteArray.mk #[99,117,116]).toList)
             (some ((⟨13,false,[3],1⟩:dN),true))
             (cond (name1.toList==(ByteArray.mk #[112,97,100]).toList)
              (some ((⟨14,false,[3],1⟩:dN),true))
              (cond (name1.toList==(ByteArray.mk #[102,108,105,112]).toList)
                (some ((⟨15,false,[1],1⟩:dN),true))
                (cond (name1.toList==(ByteArray.mk #[100,111,116]).toList)
                 (some ((⟨16,false,[2,4],2⟩:dN),true))
                 (cond (name1.toList==(ByteArray.mk #[106,111,105,110]).toList)
                   (some ((⟨17,false,[1],(-1)⟩:dN),true))
                   (cond (name1.toList==(ByteArray.mk #[116,97,107,101]).toList)
                    (some ((⟨18,false,[0],2⟩:dN),true))
                    (cond (name1.toList==(ByteArray.mk #[112,117,116]).toList)
                      (some ((⟨19,true,[0],2⟩:dN),true))
                      (some ((⟨0,false,([]:List Int),0⟩:dN),false)))))))))))))))
def jL (fu:Nat) (name2:ByteArray):Int×Bool×(Option cM)→Option ((Int×Bool×(Option cM))⊕(Ex (Int×Bool) (Int×Bool))):=fun (v3,v4,s5)=>
 cond (!(Option.isNone s5))
  ((s5).bind fun p6=>
   cond (p6.name.toList==name2.toList)
    ((s5).bind fun p7=>
    some (.inr (.ret (p7.value,true))))
    ((s5).bind fun p8=>
    some (.inl (v3,v4,p8.next))))
  (some (.inr (.bw (v3,v4))))
def jV (fu:Nat) (s1:Option cM) (name2:ByteArray):Option (Int×Bool):=
 br (fun r=>r) (aW (jL fu name2) fu (0,false,s1):Option (Ex (Int×Bool) (Int×Bool))) fun ((v9,v10):Int×Bool)=>
 some (0,false)
def iE (fu:Nat) (s1:Option cM) (name2:ByteArray) (value3:Int):Option (Option cM):=
 some (some (⟨name2,value3,s1⟩:cM):Option cM)
def li (fu:Nat) (t1:ai) (r4:dN):Bool×Int→Option ((Bool×Int)⊕Bool):=fun (fits6,v7)=>
 cond (decide (v7<(r4.lists.length:Int)))
  ((idx r4.lists v7).bind fun x8=>
   (cond fits6 (some true) (some (x8==(t1.aE.length:Int)))).bind fun (fits9:Bool)=>
   some (.inl (fits9,wrap .i64 (v7+1))))
  (some (.inr fits6))
def hJ (fu:Nat) (t1:ai) (m2:ap) (m3:ap):Int→Option Ss:=fun v11=>
 cond (decide (v11<(t1.Shape.length:Int)))
  ((idx t1.Shape v11).bind fun x12=>
   cond (x12.Name.toList==(ByteArray.mk #[]).toList) (aV (dX true 8)
    (fun _=>
     some (.inl (wrap .i64 (v11+1))))
    (fun ((e15,e16),_)=>
     some (.inr (.ret (.inr ((e15,0),(m2,m3))))))) (aV (dX (du m3.Es x12.Name) 8)
    (fun _=>
     some (.inl (wrap .i64 (v11+1))))
    (fun ((e13,e14),_)=>
     some (.inr (.ret (.inr ((e13,0),(m2,m3))))))))
  (some (.inr (.bw ())))
def rK (fu:Nat) (t1:ai) (m2:ap) (m3:ap):Int→Option Ss:=fun v19=>
 cond (decide (v19<(t1.Shape.length:Int)))
  ((idx t1.Shape v19).bind fun x20=>
   cond (x20.Name.toList==(ByteArray.mk #[]).toList) (aV (dX true 8)
    (fun _=>
     some (.inl (wrap .i64 (v19+1))))
    (fun ((e23,e24),_)=>
     some (.inr (.ret (.inr ((e23,0),(m2,m3))))))) (aV (dX (du m3.Es x20.Name) 8)
    (fun _=>
     some (.inl (wrap .i64 (v19+1))))
    (fun ((e21,e22),_)=>
     some (.inr (.ret (.inr ((e21,0),(m2,m3))))))))
  (some (.inr (.bw ())))
def rJ (fu:Nat) (t1:ai) (m2:ap) (m3:ap):Int→Option Ss:=fun v27=>
 cond (decide (v27<(t1.Shape.length:Int)))
  ((idx t1.Shape v27).bind fun x28=>
   cond (x28.Name.toList==(ByteArray.mk #[]).toList) (aV (dX true 8)
    (fun _=>
     some (.inl (wrap .i64 (v27+1))))
    (fun ((e31,e32),_)=>
     some (.inr (.ret (.inr ((e31,0),(m2,m3))))))) (aV (dX (du m3.Es x28.Name) 8)
    (fun _=>
     some (.inl (wrap .i64 (v27+1))))
    (fun ((e29,e30),_)=>
     some (.inr (.ret (.inr ((e29,0),(m2,m3))))))))
  (some (.inr (.bw ())))
def xj (fu:Nat) (t1:ai) (m2:ap) (m3:ap):Int→Option Ss:=fun v37=>
 cond (decide (v37<(t1.Shape.length:Int)))
  ((idx t1.Shape v37).bind fun x38=>
   cond (x38.Name.toList==(ByteArray.mk #[]).toList) (aV (dX true 8)
    (fun _=>
     some (.inl (wrap .i64 (v37+1))))
    (fun ((e41,e42),_)=>
     some (.inr (.ret (.inr ((e41,0),(m2,m3))))))) (aV (dX (du m3.Es x38.Name) 8)
    (fun _=>
     some (.inl (wrap .i64 (v37+1))))
    (fun ((e39,e40),_)=>
     some (.inr (.ret (.inr ((e39,0),(m2,m3))))))))
  (some (.inr (.bw ())))
def xi (fu:Nat) (t1:ai) (m2:ap) (m3:ap):Int→Option Ss:=fun v45=>
 cond (decide (v45<(t1.Shape.length:Int)))
  ((idx t1.Shape v45).bind fun x46=>
   cond (x46.Name.toList==(ByteArray.mk #[]).toList) (aV (dX true 8)
    (fun _=>
     some (.inl (wrap .i64 (v45+1))))
    (fun ((e49,e50),_)=>
     some (.inr (.ret (.inr ((e49,0),(m2,m3))))))) (aV (dX (du m3.Es x46.Name) 8)
    (fun _=>
     some (.inl (wrap .i64 (v45+1))))
    (fun ((e47,e48),_)=>
     some (.inr (.ret (.inr ((e47,0),(m2,m3))))))))
  (some (.inr (.bw ())))
def xh (fu:Nat) (t1:ai) (m2:ap) (m3:ap):Int→Option Ss:=fun v53=>
 cond (decide (v53<(t1.Shape.length:Int)))
  ((idx t1.Shape v53).bind fun x54=>
   cond (x54.Name.toList==(ByteArray.mk #[]).toList) (aV (dX true 8)
    (fun _=>
     some (.inl (wrap .i64 (v53+1))))
    (fun ((e57,e58),_)=>
     some (.inr (.ret (.inr ((e57,0),(m2,m3))))))) (aV (dX (du m3.Es x54.Name) 8)
    (fun _=>
     some (.inl (wrap .i64 (v53+1))))
    (fun ((e55,e56),_)=>
     some (.inr (.ret (.inr ((e55,0),(m2,m3))))))))
  (some (.inr (.bw ())))
def nw (fu:Nat) (t1:ai) (m2:ap) (m3:ap):Option Sj:=
 (ld fu t1.Name).bind fun ((r4,r5):dN×Bool)=>
 cond r5
  ((aW (li fu t1 r4) fu (false,0)).bind fun (fits10:Bool)=>
   cond fits10 (aV (dX (t1.Shaped==r4.shaped) 7)
    (fun _=>
     cond (r4.args==(t1.Kids.length:Int)) (aV (dX true 2)
      (fun _=>
       br (fun r=>r) (aW (rJ fu t1 m2 m3) fu 0:Option (Ex Unit Sj)) fun (_:Unit)=>
       some (.inl (m2,m3)))
      (fun ((e33,e34),_)=>
       some (.inr ((e33,0),(m2,m3))))) (cond (decide (r4.args<0)) (aV (dX (decide ((t1.Kids.length:Int)>0)) 2)
      (fun _=>
       br (fun r=>r) (aW (hJ fu t1 m2 m3) fu 0:Option (Ex Unit Sj)) fun (_:Unit)=>
       some (.inl (m2,m3)))
      (fun ((e17,e18),_)=>
       some (.inr ((e17,0),(m2,m3))))) (aV (dX false 2)
      (fun _=>
       br (fun r=>r) (aW (rK fu t1 m2 m3) fu 0:Option (Ex Unit Sj)) fun (_:Unit)=>
       some (.inl (m2,m3)))
      (fun ((e25,e26),_)=>
       some (.inr ((e25,0),(m2,m3)))))))
    (fun ((e35,e36),_)=>
     some (.inr ((e35,0),(m2,m3))))) (aV (dX false 7)
    (fun _=>
     cond (r4.args==(t1.Kids.length:Int)) (aV (dX true 2)
      (fun _=>
       br (fun r=>r) (aW (xh fu t1 m2 m3) fu 0:Option (Ex Unit Sj)) fun (_:Unit)=>
       some (.inl (m2,m3)))
      (fun ((e59,e60),_)=>
       some (.inr ((e59,0),(m2,m3))))) (cond (decide (r4.args<0)) (aV (dX (decide ((t1.Kids.length:Int)>0)) 2)
      (fun _=>
       br (fun r=>r) (aW (xj fu t1 m2 m3) fu 0:Option (Ex Unit Sj)) fun (_:Unit)=>
       some (.inl (m2,m3)))
      (fun ((e43,e44),_)=>
       some (.inr ((e43,0),(m2,m3))))) (aV (dX false 2)
      (fun _=>
       br (fun r=>r) (aW (xi fu t1 m2 m3) fu 0:Option (Ex Unit Sj)) fun (_:Unit)=>
       some (.inl (m2,m3)))
      (fun ((e51,e52),_)=>
       some (.inr ((e51,0),(m2,m3)))))))
    (fun ((e61,e62),_)=>
     some (.inr ((e61,0),(m2,m3))))))
  (aV (dX (du m2.Es t1.Name) 8)
    (fun _=>
     cond (!t1.Shaped) (aV (dX ((t1.aE.length:Int)==0) 7)
      (fun _=>
       aV (dX ((ik m2.Es t1.Name)==(t1.Kids.length:Int)) 2)
        (fun _=>
         some (.inl (m2,m3)))
        (fun ((e63,e64),_)=>
         some (.inr ((e63,0),(m2,m3)))))
      (fun ((e65,e66),_)=>
       some (.inr ((e65,0),(m2,m3))))) (aV (dX false 7)
      (fun _=>
       aV (dX ((ik m2.Es t1.Name)==(t1.Kids.length:Int)) 2)
        (fun _=>
         some (.inl (m2,m3)))
        (fun ((e67,e68),_)=>
         some (.inr ((e67,0),(m2,m3)))))
      (fun ((e69,e70),_)=>
       some (.inr ((e69,0),(m2,m3))))))
    (fun ((e71,e72),_)=>
     some (.inr ((e71,0),(m2,m3)))))
def fV (self:ai→(Option cM)→ap→ap→Option Sj) (fu:Nat) (t1:ai) (s2:Option cM):Int×ap×ap→Option ((Int×ap×ap)⊕(Ex (ap×ap) Sj)):=fun (v19,m20,m21)=>
 cond (decide (v19<(t1.Kids.length:Int)))
  ((idx t1.Kids v19).bind fun x52=>
   (cond (v19==1) (cond (t1.Kind==5) (some true) (some (t1.Kind==6))) (some false)).bind fun (v53:Bool)=>
   br (fun r=>r) (cond v53
     ((iE fu s2 t1.Name 0).bind fun (r54:Option cM)=>
     aV (self (⟨x52.Kind,x52.Name,x52.Number,x52.Shaped,x52.Shape,x52.aE,x52.Kids⟩:ai) r54 m20 m21)
      (fun ((r55,r56):ap×ap)=>
       some (.bw (r55,r56)))
      (fun ((e57,e58),(r59,r60))=>
       some (.ret (.inr (.ret (.inr ((e57,0),(r59,r60))))))))
     (aV (self (⟨x52.Kind,x52.Name,x52.Number,x52.Shaped,x52.Shape,x52.aE,x52.Kids⟩:ai) s2 m20 m21)
      (fun ((r61,r62):ap×ap)=>
       some (.bw (r61,r62)))
      (fun ((e63,e64),(r65,r66))=>
       some (.ret (.inr (.ret (.inr ((e63,0),(r65,r66)))))))):Option (Ex (ap×ap) ((Int×ap×ap)⊕(Ex (ap×ap) Sj)))) fun ((m67,m68):ap×ap)=>
   some (.inl (wrap .i64 (v19+1),m67,m68)))
  (some (.inr (.bw (m20,m21))))
def oB (self:ai→(Option cM)→ap→ap→Option Sj) (fu:Nat) (t1:ai) (s2:Option cM) (m3:ap) (m4:ap):Option Sj:=
 br (fun r=>r) (cond (t1.Kind==2)
   ((jV fu s2 t1.Name).bind fun ((r5,r6):Int×Bool)=>
    aV (dX r6 8)
     (fun _=>
      some (.bw (m3,m4)))
     (fun ((e7,e8),_)=>
      some (.ret (.inr ((e7,0),(m3,m4))))))
   (br (fun r=>r) (cond (t1.Kind==3)
      (aV (nw fu (⟨t1.Kind,t1.Name,t1.Number,t1.Shaped,t1.Shape,t1.aE,t1.Kids⟩:ai) m3 m4)
       (fun ((r9,r10):ap×ap)=>
        some (.bw (r9,r10)))
       (fun ((e11,e12),(r13,r14))=>
        some (.ret (.ret (.inr ((e11,0),(r13,r14)))))))
      (some (.bw (m3,m4))):Option (Ex (ap×ap) (Ex (ap×ap) Sj))) fun ((m15,m16):ap×ap)=>
    some (.bw (m15,m16))):Option (Ex (ap×ap) Sj)) fun ((m17,m18):ap×ap)=>
 br (fun r=>r) (aW (fV self fu t1 s2) fu (0,m17,m18):Option (Ex (ap×ap) Sj)) fun ((m69,m70):ap×ap)=>
 some (.inl (m69,m70))
def dG:Nat→ai→(Option cM)→ap→ap→Option Sj
 | 0=>fun _ _ _ _=>none
 | fu+1=>oB (dG fu) (fu+1)
def mI (fu:Nat) (x12:eT):Int×ap→Option ((Int×ap)⊕ap):=fun (v16,m17)=>
 cond (decide (v16<(x12.cV.length:Int)))
  ((idx x12.cV v16).bind fun x18=>
   some (.inl (wrap .i64 (v16+1),(⟨jR m17.Es x18.Name (wrap .i64 ((ik m17.Es x18.Name)+1))⟩:ap))))
  (some (.inr m17))
def j9 (fu:Nat) (x6:bB):(Option cM)×Int×ap→Option (((Option cM)×Int×ap)⊕Sl):=fun (s9,v10,m11)=>
 cond (decide (v10<(x6.aB.length:Int)))
  ((idx x6.aB v10).bind fun x12=>
   (jV fu s9 x12.Name).bind fun ((r13,r14):Int×Bool)=>
   aV (dX (!r14) 8)
    (fun _=>
     (iE fu s9 x12.Name 0).bind fun (r15:Option cM)=>
     (aW (mI fu x12) fu (0,m11)).bind fun (m19:ap)=>
     some (.inl (r15,wrap .i64 (v10+1),m19)))
    (fun ((e20,e21),_)=>
     some (.inr (.ret (.inr (.ret (.inl e20)))))))
  (some (.inr (.bw (s9,m11))))
def DZ (fu:Nat) (x35:eT):Int×ap→Option ((Int×ap)⊕ap):=fun (v39,m40)=>
 cond (decide (v39<(x35.cV.length:Int)))
  ((idx x35.cV v39).bind fun x41=>
   some (.inl (wrap .i64 (v39+1),(⟨jR m40.Es x41.Name (wrap .i64 ((ik m40.Es x41.Name)+1))⟩:ap))))
  (some (.inr m40))
def w8 (fu:Nat) (x6:bB):(Option cM)×Int×ap→Option (((Option cM)×Int×ap)⊕Sl):=fun (s32,v33,m34)=>
 cond (decide (v33<(x6.aB.length:Int)))
  ((idx x6.aB v33).bind fun x35=>
   (jV fu s32 x35.Name).bind fun ((r36,r37):Int×Bool)=>
   aV (dX (!r37) 8)
    (fun _=>
     (iE fu s32 x35.Name 0).bind fun (r38:Option cM)=>
     (aW (DZ fu x35) fu (0,m34)).bind fun (m42:ap)=>
     some (.inl (r38,wrap .i64 (v33+1),m42)))
    (fun ((e43,e44),_)=>
     some (.inr (.ret (.inr (.ret (.inl e43)))))))
  (some (.inr (.bw (s32,m34))))
def j8 (fu:Nat) (p1:List bB):Int×ap→Option ((Int×ap)⊕(Ex ap (Int⊕((Int×Int)×Unit)))):=fun (v4,m5)=>
 cond (decide (v4<(p1.length:Int)))
  ((idx p1 v4).bind fun x6=>
   (ld fu x6.Name).bind fun ((r7,r8):dN×Bool)=>
   cond (!(du m5.Es x6.Name)) (aV (dX (!r8) 8)
    (fun _=>
     br (fun r=>r) (aW (j9 fu x6) fu ((none:Option cM),0,(⟨[]⟩:ap)):Option Sl) fun ((s22,m23):(Option cM)×ap)=>
     aV (dG fu (⟨x6.Body.Kind,x6.Body.Name,x6.Body.Number,x6.Body.Shaped,x6.Body.Shape,x6.Body.aE,x6.Body.Kids⟩:ai) s22 m5 m23)
      (fun ((r24,r25):ap×ap)=>
       some (.inl (wrap .i64 (v4+1),(⟨jR r24.Es x6.Name (x6.aB.length:Int)⟩:ap))))
      (fun ((e26,e27),(r28,r29))=>
       some (.inr (.ret (.inl e26)))))
    (fun ((e30,e31),_)=>
     some (.inr (.ret (.inl e30))))) (aV (dX false 8)
    (fun _=>
     br (fun r=>r) (aW (w8 fu x6) fu ((none:Option cM),0,(⟨[]⟩:ap)):Option Sl) fun ((s45,m46):(Option cM)×ap)=>
     aV (dG fu (⟨x6.Body.Kind,x6.Body.Name,x6.Body.Number,x6.Body.Shaped,x6.Body.Shape,x6.Body.aE,x6.Body.Kids⟩:ai) s45 m5 m46)
      (fun ((r47,r48):ap×ap)=>
       some (.inl (wrap .i64 (v4+1),(⟨jR r47.Es x6.Name (x6.aB.length:Int)⟩:ap))))
      (fun ((e49,e50),(r51,r52))=>
       some (.inr (.ret (.inl e49)))))
    (fun ((e53,e54),_)=>
     some (.inr (.ret (.inl e53))))))
  (some (.inr (.bw m5)))
def ti (fu:Nat) (p1:List bB):Option (Int⊕((Int×Int)×Unit)):=
 (sC fu p1).bind fun ((r2,r3):ByteArray×Int)=>
 cond (r3 !=0)
  (some (.inl r3))
  (br (fun r=>r) (aW (j8 fu p1) fu (0,(⟨[]⟩:ap)):Option (Ex ap (Int⊕((Int×Int)×Unit)))) fun (m55:ap)=>
   some (.inl 0))
def sy (fu:Nat) (p1:List bB):Option Int:=N1 (ti fu p1)
def uW (fu:Nat) (p1:List bB):Option Int:=
 (sy fu p1).bind fun (r2:Int)=>
 some r2
def iS (fu:Nat) (c1:Int):Option Bool:=
 (cond (decide (97≤c1)) (cond (decide (c1≤122)) (some true) (cond (decide (65≤c1)) (cond (decide (c1≤90)) (some true) (some (c1==95))) (some (c1==95)))) (cond (decide (65≤c1)) (cond (decide (c1≤90)) (some true) (some (c1==95))) (some (c1==95)))).bind fun (v2:Bool)=>
 some v2
def kZ (fu:Nat) (c1:Int):Option Bool:=
 (cond (decide (48≤c1)) (some (decide (c1≤57))) (some false)).bind fun (v2:Bool)=>
 some v2
def ij (fu:Nat) (s1:ByteArray):Bool×Int→Option Sn:=fun (v5,i6)=>
 cond (decide (i6<(s1.size:Int)))
  (((qL s1 i6).bind fun c7=>
    (iS fu ((c7.toNat:Nat):Int)).bind fun (r8:Bool)=>
    cond (!r8) ((qL s1 i6).bind fun c9=>
    (kZ fu ((c9.toNat:Nat):Int)).bind fun (r10:Bool)=>
    some (!r10)) (some false)).bind fun (v11:Bool)=>
   cond v11
    (some (.inr (.ret false)))
    (some (.inl (v5,wrap .i64 (i6+1)))))
  (some (.inr (.bw ())))
def cA (fu:Nat) (s1:ByteArray):Option Bool:=
 (cond (s1.toList==(ByteArray.mk #[]).toList) (some true) ((qL s1 0).bind fun c2=>
  (iS fu ((c2.toNat:Nat):Int)).bind fun (r3:Bool)=>
  cond (!r3) (some true) (cond (s1.toList==(ByteArray.mk #[102,110]).toList) (some true) (cond (s1.toList==(ByteArray.mk #[108,101,116]).toList) (some true) (cond (s1.toList==(ByteArray.mk #[105,110]).toList) (some true) (cond (s1.toList==(ByteArray.mk #[114,101,112,101,97,116]).toList) (some true) (some (s1.toList==(ByteArray.mk #[119,105,116,104]).toList)))))))).bind fun (v4:Bool)=>
 cond v4
  (some false)
  (br (fun r=>r) (aW (ij fu s1) fu (false,0):Option (Ex Unit Bool)) fun (_:Unit)=>
   some true)
def gA (fu:Nat) (l1:List iu):Bool×Int→Option Sn:=fun (v2,v3)=>
 cond (decide (v3<(l1.length:Int)))
  ((idx l1 v3).bind fun x4=>
   (cond (x4.Name.toList==(ByteArray.mk #[]).toList) (cond (decide (x4.iW<0)) (some true) (cond (!(x4.Name.toList==(ByteArray.mk #[]).toList)) (cond (x4.iW !=0) (some true) ((cA fu x4.Name).bind fun (r5:Bool)=>
    some (!r5))) (some false))) (cond (!(x4.Name.toList==(ByteArray.mk #[]).toList)) (cond (x4.iW !=0) (some true) ((cA fu x4.Name).bind fun (r6:Bool)=>
    some (!r6))) (some false))).bind fun (v7:Bool)=>
   cond v7
    (some (.inr (.ret false)))
    (some (.inl (v2,wrap .i64 (v3+1)))))
  (some (.inr (.bw ())))
def fj (fu:Nat) (l1:List iu):Option Bool:=
 br (fun r=>r) (aW (gA fu l1) fu (false,0):Option (Ex Unit Bool)) fun (_:Unit)=>
 some true
def iV (self:ai→Option Bool) (fu:Nat) (t1:ai):Bool×Int→Option ((Bool×Int)⊕(Ex Bool Bool)):=fun (v2,v3)=>
 cond (decide (v3<(t1.Kids.length:Int)))
  ((idx t1.Kids v3).bind fun x4=>
   (self (⟨x4.Kind,x4.Name,x4.Number,x4.Shaped,x4.Shape,x4.aE,x4.Kids⟩:ai)).bind fun (r5:Bool)=>
   cond (!r5)
    (some (.inr (.ret false)))
    (some (.inl (v2,wrap .i64 (v3+1)))))
  (some (.inr (.bw v2)))
def iU (self:ai→Option Bool) (fu:Nat) (x18:List Int):Bool×Int→Option ((Bool×Int)⊕(Ex Bool Sn)):=fun (v19,v20)=>
 cond (decide (v20<(x18.length:Int)))
  ((idx x18 v20).bind fun x21=>
   cond (decide (x21<0))
    (some (.inr (.ret (.inr (.ret false)))))
    (some (.inl (v19,wrap .i64 (v20+1)))))
  (some (.inr (.bw v19)))
def iT (self:ai→Option Bool) (fu:Nat) (t1:ai):Bool×Int→Option Sn:=fun (v16,v17)=>
 cond (decide (v17<(t1.aE.length:Int)))
  ((idx t1.aE v17).bind fun x18=>
   br (fun r=>r) (aW (iU self fu x18) fu (v16,0):Option (Ex Bool Sn)) fun (v22:Bool)=>
   some (.inl (v22,wrap .i64 (v17+1))))
  (some (.inr (.bw ())))
def k6 (self:ai→Option Bool) (fu:Nat) (t1:ai):Option Bool:=
 br (fun r=>r) (aW (iV self fu t1) fu (false,0):Option (Ex Bool Bool)) fun (v6:Bool)=>
 (cond (!t1.Shaped) (cond ((t1.Shape.length:Int)==0) (some ((t1.aE.length:Int)==0)) (some false)) (some false)).bind fun (bare7:Bool)=>
 cond (t1.Kind==1)
  ((cond bare7 (cond (t1.Name.toList==(ByteArray.mk #[]).toList) (cond (decide (t1.Number≥0)) (some ((t1.Kids.length:Int)==0)) (some false)) (some false)) (some false)).bind fun (v8:Bool)=>
   some v8)
  (cond (t1.Kind==2)
    ((cond bare7 ((cA fu t1.Name).bind fun (r9:Bool)=>
     cond r9 (cond (t1.Number==0) (some ((t1.Kids.length:Int)==0)) (some false)) (some false)) (some false)).bind fun (v10:Bool)=>
    some v10)
    (cond (t1.Kind==4)
     ((cond bare7 (cond (t1.Name.toList==(ByteArray.mk #[43]).toList) (cond (t1.Number==0) (some ((t1.Kids.length:Int)==2)) (some false)) (cond (t1.Name.toList==(ByteArray.mk #[45]).toList) (cond (t1.Number==0) (some ((t1.Kids.length:Int)==2)) (some false)) (cond (t1.Name.toList==(ByteArray.mk #[42]).toList) (cond (t1.Number==0) (some ((t1.Kids.length:Int)==2)) (some false)) (some false)))) (some false)).bind fun (v11:Bool)=>
      some v11)
     (cond (t1.Kind==5)
       ((cond bare7 ((cA fu t1.Name).bind fun (r12:Bool)=>
        cond r12 (cond (t1.Number==0) (some ((t1.Kids.length:Int)==2)) (some false)) (some false)) (some false)).bind fun (v13:Bool)=>
       some v13)
       (cond (t1.Kind==6)
        ((cond bare7 ((cA fu t1.Name).bind fun (r14:Bool)=>
          cond r14 (cond (decide (t1.Number≥0)) (some ((t1.Kids.length:Int)==2)) (some false)) (some false)) (some false)).bind fun (v15:Bool)=>
         some v15)
        (cond (t1.Kind==3)
          (br (fun r=>r) (aW (iT self fu t1) fu (v6,0):Option (Ex Unit Bool)) fun (_:Unit)=>
          ((cA fu t1.Name).bind fun (r23:Bool)=>
           cond r23 (cond (t1.Number==0) (cond t1.Shaped ((fj fu t1.Shape).bind fun (r25:Bool)=>
           some r25) (cond ((t1.Shape.length:Int)==0) ((fj fu t1.Shape).bind fun (r24:Bool)=>
           some r24) (some false))) (some false)) (some false)).bind fun (v26:Bool)=>
          some v26)
          (some false))))))
def jc:Nat→ai→Option Bool
 | 0=>fun _=>none
 | fu+1=>k6 (jc fu) (fu+1)
def mD (self:Int→Option (ByteArray)) (fu:Nat) (n1:Int):Option (ByteArray):=
 cond (decide (n1<10))
  (some (strOf [wrap .u8 (wrap .i64 (48+n1))]))
  (((cj (10≠0)).bind fun _=>
    (cj (10≠0)).bind fun _=>
    DX ((self (wrap .i64 (Int.tdiv n1 10))).bind fun (r3:ByteArray)=>
    (cj (((r3.size+(strOf [wrap .u8 (wrap .i64 (48+(Int.tmod n1 10)))]).size:Nat):Int)≤9223372036854775807)).bind fun _=>
    some (r3++(strOf [wrap .u8 (wrap .i64 (48+(Int.tmod n1 10)))]))) (JM ((self (wrap .i64 (Int.tdiv n1 10))).bind fun (r3:ByteArray)=>
    (cj (((r3.size+(strOf [wrap .u8 (wrap .i64 (48+(Int.tmod n1 10)))]).size:Nat):Int)≤9223372036854775807)).bind fun _=>
    some (r3++(strOf [wrap .u8 (wrap .i64 (48+(Int.tmod n1 10)))]))))).bind fun (v4:ByteArray)=>
   some v4)
def eH:Nat→Int→Option (ByteArray)
 | 0=>fun _=>none
 | fu+1=>mD (eH fu) (fu+1)
def gi (fu:Nat) (l1:List iu):ByteArray×Int→Option Sq:=fun (s2,v3)=>
 cond (decide (v3<(l1.length:Int)))
  ((idx l1 v3).bind fun x4=>
   (cond (decide (v3>0))
     ((cj (((s2.size+(ByteArray.mk #[32]).size:Nat):Int)≤9223372036854775807)).bind fun _=>
     some (s2++(ByteArray.mk #[32])))
     (some s2)).bind fun (s5:ByteArray)=>
   (cond (x4.Name.toList==(ByteArray.mk #[]).toList)
     ((eH fu x4.iW).bind fun (r6:ByteArray)=>
     (cj (((s5.size+r6.size:Nat):Int)≤9223372036854775807)).bind fun _=>
     some (s5++r6))
     ((cj (((s5.size+x4.Name.size:Nat):Int)≤9223372036854775807)).bind fun _=>
     some (s5++x4.Name))).bind fun (s7:ByteArray)=>
   some (.inl (s7,wrap .i64 (v3+1))))
  (some (.inr s2))
def fS (fu:Nat) (l1:List iu):Option (ByteArray):=
 (aW (gi fu l1) fu ((ByteArray.mk #[91]),0)).bind fun (s8:ByteArray)=>
 (cj (((s8.size+(ByteArray.mk #[93]).size:Nat):Int)≤9223372036854775807)).bind fun _=>
 some (s8++(ByteArray.mk #[93]))
def gC (fu:Nat) (t1:ai):Option Int:=
 (cond (t1.Kind==5) (some true) (some (t1.Kind==6))).bind fun (v2:Bool)=>
 cond v2
  (some 0)
  ((cond (t1.Kind==4) (some (t1.Name.toList==(ByteArray.mk #[42]).toList)) (some false)).bind fun (v3:Bool)=>
   cond v3
    (some 2)
    (cond (t1.Kind==4)
     (some 1)
     (some 3)))
def kQ (fu:Nat) (t1:ai) (k2:Int):Option Bool:=
 (idx t1.Kids k2).bind fun x3=>
 (gC fu x3).bind fun (r4:Int)=>
 (gC fu (⟨t1.Kind,t1.Name,t1.Number,t1.Shaped,t1.Shape,t1.aE,t1.Kids⟩:ai)).bind fun (r5:Int)=>
 some (decide (r4<(wrap .i64 (r5+k2))))
def gL (self:ai→Option (ByteArray)) (fu:Nat) (t1:ai):ByteArray×Int→Option Sq:=fun (s3,v4)=>
 cond (decide (v4<(t1.Kids.length:Int)))
  ((idx t1.Kids v4).bind fun x5=>
   (self (⟨x5.Kind,x5.Name,x5.Number,x5.Shaped,x5.Shape,x5.aE,x5.Kids⟩:ai)).bind fun (r6:ByteArray)=>
   (kQ fu (⟨t1.Kind,t1.Name,t1.Number,t1.Shaped,t1.Shape,t1.aE,t1.Kids⟩:ai) v4).bind fun (r7:Bool)=>
   (cond r7
     ((cj ((((ByteArray.mk #[40]).size+r6.size:Nat):Int)≤9223372036854775807)).bind fun _=>
     (cj (((((ByteArray.mk #[40])++r6).size+(ByteArray.mk #[41]).size:Nat):Int)≤9223372036854775807)).bind fun _=>
     some (((ByteArray.mk #[40])++r6)++(ByteArray.mk #[41])))
     (some r6)).bind fun (u8:ByteArray)=>
   (cond (v4==1)
     ((cj (((s3.size+(ByteArray.mk #[32]).size:Nat):Int)≤9223372036854775807)).bind fun _=>
     (cj ((((s3++(ByteArray.mk #[32])).size+t1.Name.size:Nat):Int)≤9223372036854775807)).bind fun _=>
     (cj (((((s3++(ByteArray.mk #[32]))++t1.Name).size+(ByteArray.mk #[32]).size:Nat):Int)≤9223372036854775807)).bind fun _=>
     some (((s3++(ByteArray.mk #[32]))++t1.Name)++(ByteArray.mk #[32])))
     (some s3)).bind fun (s9:ByteArray)=>
   (cj (((s9.size+u8.size:Nat):Int)≤9223372036854775807)).bind fun _=>
   some (.inl ((s9++u8),wrap .i64 (v4+1))))
  (some (.inr s3))
def jv (self:ai→Option (ByteArray)) (fu:Nat) (x24:List Int):ByteArray×Int→Option Sq:=fun (s25,v26)=>
 cond (decide (v26<(x24.length:Int)))
  ((idx x24 v26).bind fun x27=>
   (cond (decide (v26>0))
     ((cj (((s25.size+(ByteArray.mk #[32]).size:Nat):Int)≤9223372036854775807)).bind fun _=>
     some (s25++(ByteArray.mk #[32])))
     (some s25)).bind fun (s28:ByteArray)=>
   (eH fu x27).bind fun (r29:ByteArray)=>
   (cj (((s28.size+r29.size:Nat):Int)≤9223372036854775807)).bind fun _=>
   some (.inl ((s28++r29),wrap .i64 (v26+1))))
  (some (.inr s25))
def k5 (self:ai→Option (ByteArray)) (fu:Nat) (t1:ai):ByteArray×Int→Option Sq:=fun (s22,v23)=>
 cond (decide (v23<(t1.aE.length:Int)))
  ((idx t1.aE v23).bind fun x24=>
   (cj (((s22.size+(ByteArray.mk #[123]).size:Nat):Int)≤9223372036854775807)).bind fun _=>
   (aW (jv self fu x24) fu ((s22++(ByteArray.mk #[123])),0)).bind fun (s30:ByteArray)=>
   (cj (((s30.size+(ByteArray.mk #[125]).size:Nat):Int)≤9223372036854775807)).bind fun _=>
   some (.inl ((s30++(ByteArray.mk #[125])),wrap .i64 (v23+1))))
  (some (.inr s22))
def ju (self:ai→Option (ByteArray)) (fu:Nat) (t1:ai):ByteArray×Int→Option Sq:=fun (s32,v33)=>
 cond (decide (v33<(t1.Kids.length:Int)))
  ((idx t1.Kids v33).bind fun x34=>
   (cond (decide (v33>0))
     ((cj (((s32.size+(ByteArray.mk #[44,32]).size:Nat):Int)≤9223372036854775807)).bind fun _=>
     some (s32++(ByteArray.mk #[44,32])))
     (some s32)).bind fun (s35:ByteArray)=>
   (self (⟨x34.Kind,x34.Name,x34.Number,x34.Shaped,x34.Shape,x34.aE,x34.Kids⟩:ai)).bind fun (r36:ByteArray)=>
   (cj (((s35.size+r36.size:Nat):Int)≤9223372036854775807)).bind fun _=>
   some (.inl ((s35++r36),wrap .i64 (v33+1))))
  (some (.inr s32))
def lC (self:ai→Option (ByteArray)) (fu:Nat) (t1:ai):Option (ByteArray):=
 cond (t1.Kind==1)
  ((eH fu t1.Number).bind fun (r2:ByteArray)=>
   some r2)
  (cond (t1.Kind==2)
    (some t1.Name)
    (cond (t1.Kind==4)
     ((aW (gL self fu t1) fu ((ByteArray.mk #[]),0)).bind fun (s10:ByteArray)=>
      some s10)
     (cond (t1.Kind==5)
       ((cj ((((ByteArray.mk #[108,101,116,32]).size+t1.Name.size:Nat):Int)≤9223372036854775807)).bind fun _=>
       (cj (((((ByteArray.mk #[108,101,116,32])++t1.Name).size+(ByteArray.mk #[32,61,32]).size:Nat):Int)≤9223372036854775807)).bind fun _=>
       (idx t1.Kids 0).bind fun x11=>
       (idx t1.Kids 1).bind fun x12=>
       (self x11).bind fun (r13:ByteArray)=>
       (cj ((((((ByteArray.mk #[108,101,116,32])++t1.Name)++(ByteArray.mk #[32,61,32])).size+r13.size:Nat):Int)≤9223372036854775807)).bind fun _=>
       (cj (((((((ByteArray.mk #[108,101,116,32])++t1.Name)++(ByteArray.mk #[32,61,32]))++r13).size+(ByteArray.mk #[32,105,110,32]).size:Nat):Int)≤9223372036854775807)).bind fun _=>
       (self x12).bind fun (r14:ByteArray)=>
       (cj ((((((((ByteArray.mk #[108,101,116,32])++t1.Name)++(ByteArray.mk #[32,61,32]))++r13)++(ByteArray.mk #[32,105,110,32])).size+r14.size:Nat):Int)≤9223372036854775807)).bind fun _=>
       some ((((((ByteArray.mk #[108,101,116,32])++t1.Name)++(ByteArray.mk #[32,61,32]))++r13)++(ByteArray.mk #[32,105,110,32]))++r14))
       (cond (t1.Kind==6)
        ((idx t1.Kids 0).bind fun x15=>
         (idx t1.Kids 1).bind fun x16=>
         (eH fu t1.Number).bind fun (r17:ByteArray)=>
         (cj ((((ByteArray.mk #[114,101,112,101,97,116,32]).size+r17.size:Nat):Int)≤9223372036854775807)).bind fun _=>
         (cj (((((ByteArray.mk #[114,101,112,101,97,116,32])++r17).size+(ByteArray.mk #[32]).size:Nat):Int)≤9223372036854775807)).bind fun _=>
         (cj ((((((ByteArray.mk #[114,101,112,101,97,116,32])++r17)++(ByteArray.mk #[32])).size+t1.Name.size:Nat):Int)≤9223372036854775807)).bind fun _=>
         (cj (((((((ByteArray.mk #[114,101,112,101,97,116,32])++r17)++(ByteArray.mk #[32]))++t1.Name).size+(ByteArray.mk #[32,61,32]).size:Nat):Int)≤9223372036854775807)).bind fun _=>
         (self x15).bind fun (r18:ByteArray)=>
         (cj ((((((((ByteArray.mk #[114,101,112,101,97,116,32])++r17)++(ByteArray.mk #[32]))++t1.Name)++(ByteArray.mk #[32,61,32])).size+r18.size:Nat):Int)≤9223372036854775807)).bind fun _=>
         (cj (((((((((ByteArray.mk #[114,101,112,101,97,116,32])++r17)++(ByteArray.mk #[32]))++t1.Name)++(ByteArray.mk #[32,61,32]))++r18).size+(ByteArray.mk #[32,119,105,116,104,32]).size:Nat):Int)≤9223372036854775807)).bind fun _=>
         (self x16).bind fun (r19:ByteArray)=>
         (cj ((((((((((ByteArray.mk #[114,101,112,101,97,116,32])++r17)++(ByteArray.mk #[32]))++t1.Name)++(ByteArray.mk #[32,61,32]))++r18)++(ByteArray.mk #[32,119,105,116,104,32])).size+r19.size:Nat):Int)≤9223372036854775807)).bind fun _=>
         some ((((((((ByteArray.mk #[114,101,112,101,97,116,32])++r17)++(ByteArray.mk #[32]))++t1.Name)++(ByteArray.mk #[32,61,32]))++r18)++(ByteArray.mk #[32,119,105,116,104,32]))++r19))
        ((cond t1.Shaped
           ((fS fu t1.Shape).bind fun (r20:ByteArray)=>
           (cj (((t1.Name.size+r20.size:Nat):Int)≤9223372036854775807)).bind fun _=>
           some (t1.Name++r20))
           (some t1.Name)).bind fun (s21:ByteArray)=>
         (aW (k5 self fu t1) fu (s21,0)).bind fun (s31:ByteArray)=>
         (cj (((s31.size+(ByteArray.mk #[40]).size:Nat):Int)≤9223372036854775807)).bind fun _=>
         (aW (ju self fu t1) fu ((s31++(ByteArray.mk #[40])),0)).bind fun (s37:ByteArray)=>
         (cj (((s37.size+(ByteArray.mk #[41]).size:Nat):Int)≤9223372036854775807)).bind fun _=>
         some (s37++(ByteArray.mk #[41])))))))
def kR:Nat→ai→Option (ByteArray)
 | 0=>fun _=>none
 | fu+1=>lC (kR fu) (fu+1)
def ie (self:ai→Option Int) (fu:Nat) (t1:ai):Int×Int→Option ((Int×Int)⊕Int):=fun (n2,v3)=>
 cond (decide (v3<(t1.Kids.length:Int)))
  ((idx t1.Kids v3).bind fun x4=>
   (self (⟨x4.Kind,x4.Name,x4.Number,x4.Shaped,x4.Shape,x4.aE,x4.Kids⟩:ai)).bind fun (r5:Int)=>
   (cond (t1.Kind==4) ((kQ fu (⟨t1.Kind,t1.Name,t1.Number,t1.Shaped,t1.Shape,t1.aE,t1.Kids⟩:ai) v3).bind fun (r7:Bool)=>
    some (!r7)) (some false)).bind fun (v8:Bool)=>
   (cond v8
     (some (wrap .i64 (r5-1)))
     (some r5)).bind fun (m9:Int)=>
   (cond (decide (m9>n2))
     (some m9)
     (some n2)).bind fun (n10:Int)=>
   some (.inl (n10,wrap .i64 (v3+1))))
  (some (.inr n2))
def kz (self:ai→Option Int) (fu:Nat) (t1:ai):Option Int:=
 (aW (ie self fu t1) fu (0,0)).bind fun (n11:Int)=>
 some (wrap .i64 (n11+1))
def ig:Nat→ai→Option Int
 | 0=>fun _=>none
 | fu+1=>kz (ig fu) (fu+1)
def nv (self:ai→Option Int) (fu:Nat) (t1:ai):Option Int:=
 cond (t1.Kind !=4)
  (some 0)
  ((idx t1.Kids 0).bind fun x2=>
   (gC fu x2).bind fun (r3:Int)=>
   (gC fu (⟨t1.Kind,t1.Name,t1.Number,t1.Shaped,t1.Shape,t1.aE,t1.Kids⟩:ai)).bind fun (r4:Int)=>
   cond (r3==r4)
    ((idx t1.Kids 0).bind fun x5=>
    (self x5).bind fun (r6:Int)=>
    some (wrap .i64 (r6+1)))
    (some 1))
def kj:Nat→ai→Option Int
 | 0=>fun _=>none
 | fu+1=>nv (kj fu) (fu+1)
def gQ (self:ai→Option Int) (fu:Nat) (t1:ai):Int×Int→Option ((Int×Int)⊕Int):=fun (n3,v4)=>
 cond (decide (v4<(t1.Kids.length:Int)))
  ((idx t1.Kids v4).bind fun x5=>
   (self (⟨x5.Kind,x5.Name,x5.Number,x5.Shaped,x5.Shape,x5.aE,x5.Kids⟩:ai)).bind fun (r6:Int)=>
   (cond (decide (r6>n3))
     (some r6)
     (some n3)).bind fun (n7:Int)=>
   some (.inl (n7,wrap .i64 (v4+1))))
  (some (.inr n3))
def j5 (self:ai→Option Int) (fu:Nat) (t1:ai):Option Int:=
 (kj fu (⟨t1.Kind,t1.Name,t1.Number,t1.Shaped,t1.Shape,t1.aE,t1.Kids⟩:ai)).bind fun (r2:Int)=>
 (aW (gQ self fu t1) fu (r2,0)).bind fun (n8:Int)=>
 some n8
def gK:Nat→ai→Option Int
 | 0=>fun _=>none
 | fu+1=>j5 (gK fu) (fu+1)
def mC (fu:Nat) (x7:bB):ByteArray×Int×ByteArray×Int→Option ((ByteArray×Int×ByteArray×Int)⊕(Ex (ByteArray×Int×ByteArray) Sm)):=fun (v11,v12,s13,v14)=>
 cond (decide (v14<(x7.aB.length:Int)))
  ((idx x7.aB v14).bind fun x15=>
   ((cA fu x15.Name).bind fun (r16:Bool)=>
    cond (!r16) (some true) ((fj fu x15.cV).bind fun (r17:Bool)=>
    some (!r17))).bind fun (v18:Bool)=>
   cond v18
    (some (.inr (.ret (.inr (.ret ((ByteArray.mk #[]),7))))))
    ((cond (decide (v14>0))
      ((cj (((s13.size+(ByteArray.mk #[44,32]).size:Nat):Int)≤9223372036854775807)).bind fun _=>
       some (s13++(ByteArray.mk #[44,32])))
      (some s13)).bind fun (s19:ByteArray)=>
    (cj (((s19.size+x15.Name.size:Nat):Int)≤9223372036854775807)).bind fun _=>
    (cj ((((s19++x15.Name).size+(ByteArray.mk #[58,32]).size:Nat):Int)≤9223372036854775807)).bind fun _=>
    (fS fu x15.cV).bind fun (r20:ByteArray)=>
    (cj (((((s19++x15.Name)++(ByteArray.mk #[58,32])).size+r20.size:Nat):Int)≤9223372036854775807)).bind fun _=>
    some (.inl (v11,v12,(((s19++x15.Name)++(ByteArray.mk #[58,32]))++r20),wrap .i64 (v14+1)))))
  (some (.inr (.bw (v11,v12,s13))))
def mB (fu:Nat) (p1:List bB):ByteArray×Int×ByteArray×Bool×Int→Option Sm:=fun (v2,v3,s4,much5,v6)=>
 cond (decide (v6<(p1.length:Int)))
  ((idx p1 v6).bind fun x7=>
   ((cA fu x7.Name).bind fun (r8:Bool)=>
    cond (!r8) (some true) ((jc fu (⟨x7.Body.Kind,x7.Body.Name,x7.Body.Number,x7.Body.Shaped,x7.Body.Shape,x7.Body.aE,x7.Body.Kids⟩:ai)).bind fun (r9:Bool)=>
    some (!r9))).bind fun (v10:Bool)=>
   cond v10
    (some (.inr (.ret ((ByteArray.mk #[]),7))))
    ((cj (((s4.size+(ByteArray.mk #[102,110,32]).size:Nat):Int)≤9223372036854775807)).bind fun _=>
    (cj ((((s4++(ByteArray.mk #[102,110,32])).size+x7.Name.size:Nat):Int)≤9223372036854775807)).bind fun _=>
    (cj (((((s4++(ByteArray.mk #[102,110,32]))++x7.Name).size+(ByteArray.mk #[40]).size:Nat):Int)≤9223372036854775807)).bind fun _=>
    br (fun r=>r) (aW (mC fu x7) fu (v2,v3,(((s4++(ByteArray.mk #[102,110,32]))++x7.Name)++(ByteArray.mk #[40])),0):Option (Ex (ByteArray×Int×ByteArray) Sm)) fun ((v21,v22,s23):ByteArray×Int×ByteArray)=>
    (cj (((s23.size+(ByteArray.mk #[41,32,61,32]).size:Nat):Int)≤9223372036854775807)).bind fun _=>
    (kR fu (⟨x7.Body.Kind,x7.Body.Name,x7.Body.Number,x7.Body.Shaped,x7.Body.Shape,x7.Body.aE,x7.Body.Kids⟩:ai)).bind fun (r24:ByteArray)=>
    (cj ((((s23++(ByteArray.mk #[41,32,61,32])).size+r24.size:Nat):Int)≤9223372036854775807)).bind fun _=>
    (cj (((((s23++(ByteArray.mk #[41,32,61,32]))++r24).size+(ByteArray.mk #[59,10]).size:Nat):Int)≤9223372036854775807)).bind fun _=>
    (cond much5 (some true) ((ig fu (⟨x7.Body.Kind,x7.Body.Name,x7.Body.Number,x7.Body.Shaped,x7.Body.Shape,x7.Body.aE,x7.Body.Kids⟩:ai)).bind fun (r25:Int)=>
     cond (decide (r25>64)) (some true) ((gK fu (⟨x7.Body.Kind,x7.Body.Name,x7.Body.Number,x7.Body.Shaped,x7.Body.Shape,x7.Body.aE,x7.Body.Kids⟩:ai)).bind fun (r26:Int)=>
     some (decide (r26>64))))).bind fun (much27:Bool)=>
    some (.inl (v21,v22,(((s23++(ByteArray.mk #[41,32,61,32]))++r24)++(ByteArray.mk #[59,10])),much27,wrap .i64 (v6+1)))))
  (some (.inr (.bw (v2,v3,s4,much5))))
def lQ (fu:Nat) (p1:List bB):Option (ByteArray×Int):=
 br (fun r=>r) (aW (mB fu p1) fu ((ByteArray.mk #[]),0,(ByteArray.mk #[]),false,0):Option (Ex (ByteArray×Int×ByteArray×Bool) (ByteArray×Int))) fun ((v28,v29,s30,much31):ByteArray×Int×ByteArray×Bool)=>
 (cond much31 (some true) (some (decide ((s30.size:Int)>65536)))).bind fun (v32:Bool)=>
 cond v32
  (some ((ByteArray.mk #[]),5))
  (some (s30,0))
def dZ (fu:Nat) (name1:ByteArray):Option (gU):=
 cond (name1.toList==(ByteArray.mk #[109,97,120]).toList)
  (some (⟨6,false,0,0,2⟩:gU))
  (cond (name1.toList==(ByteArray.mk #[108,101,115,115]).toList)
    (some (⟨7,false,0,0,2⟩:gU))
    (cond (name1.toList==(ByteArray.mk #[112,105,99,107]).toList)
     (some (⟨8,false,0,0,3⟩:gU))
     (cond (name1.toList==(ByteArray.mk #[115,112,114,101,97,100]).toList)
       (some (⟨9,true,1,1,1⟩:gU))
       (cond (name1.toList==(ByteArray.mk #[115,117,109]).toList)
        (some (⟨10,false,1,1,1⟩:gU))
        (cond (name1.toList==(ByteArray.mk #[116,117,114,110]).toList)
          (some (⟨11,false,1,1,1⟩:gU))
          (cond (name1.toList==(ByteArray.mk #[114,101,102,111,114,109]).toList)
           (some (⟨12,true,0,0,1⟩:gU))
           (cond (name1.toList==(ByteArray.mk #[99,117,116]).toList)
             (some (⟨13,false,3,3,1⟩:gU))
             (cond (name1.toList==(ByteArray.mk #[112,97,100]).toList)
              (some (⟨14,false,3,3,1⟩:gU))
              (cond (name1.toList==(ByteArray.mk #[102,108,105,112]).toList)
                (some (⟨15,false,1,1,1⟩:gU))
                (cond (name1.toList==(ByteArray.mk #[100,111,116]).toList)
                 (some (⟨16,false,2,4,2⟩:gU))
                 (cond (name1.toList==(ByteArray.mk #[106,111,105,110]).toList)
                   (some (⟨17,false,1,1,(-1)⟩:gU))
                   (cond (name1.toList==(ByteArray.mk #[116,97,107,101]).toList)
                    (some (⟨18,false,0,0,2⟩:gU))
                    (cond (name1.toList==(ByteArray.mk #[112,117,116]).toList)
                      (some (⟨19,true,0,0,2⟩:gU))
                      (some (⟨0,false,0,0,0⟩:gU)))))))))))))))
def jt (fu:Nat) (p1:List bB) (name2:ByteArray):Int×Int→Option So:=fun (v3,v4)=>
 cond (decide (v4<(p1.length:Int)))
  ((idx p1 v4).bind fun x5=>
   cond (x5.Name.toList==name2.toList)
    (some (.inr (.ret v4)))
    (some (.inl (v3,wrap .i64 (v4+1)))))
  (some (.inr (.bw ())))
def jD (fu:Nat) (p1:List bB) (name2:ByteArray):Option Int:=
 br (fun r=>r) (aW (jt fu p1 name2) fu (0,0):Option (Ex Unit Int)) fun (_:Unit)=>
 some (-1)
def oJ (fu:Nat) (l1:List ByteArray) (s2:ByteArray):Bool×Int→Option Sn:=fun (v3,v4)=>
 cond (decide (v4<(l1.length:Int)))
  ((idx l1 v4).bind fun x5=>
   cond (x5.toList==s2.toList)
    (some (.inr (.ret true)))
    (some (.inl (v3,wrap .i64 (v4+1)))))
  (some (.inr (.bw ())))
def kG (fu:Nat) (l1:List ByteArray) (s2:ByteArray):Option Bool:=
 br (fun r=>r) (aW (oJ fu l1 s2) fu (false,0):Option (Ex Unit Bool)) fun (_:Unit)=>
 some false
def j4 (fu:Nat) (t1:ai) (dims2:List ByteArray):Int×Int→Option So:=fun (v10,v11)=>
 cond (decide (v11<(t1.Shape.length:Int)))
  ((idx t1.Shape v11).bind fun x12=>
   (cond (!(x12.Name.toList==(ByteArray.mk #[]).toList)) ((kG fu dims2 x12.Name).bind fun (r13:Bool)=>
    some (!r13)) (some false)).bind fun (v14:Bool)=>
   cond v14
    (some (.inr (.ret 8)))
    (some (.inl (v10,wrap .i64 (v11+1)))))
  (some (.inr (.bw ())))
def lB (fu:Nat) (t1:ai) (dims2:List ByteArray) (ahead3:List bB):Option Int:=
 (dZ fu t1.Name).bind fun (r4:gU)=>
 cond (r4.Kind==0)
  ((jD fu ahead3 t1.Name).bind fun (r5:Int)=>
   cond (decide (r5<0))
    (some 8)
    ((cond t1.Shaped (some true) (some (decide ((t1.aE.length:Int)>0)))).bind fun (v6:Bool)=>
    cond v6
     (some 7)
     ((idx ahead3 r5).bind fun x7=>
      cond ((x7.aB.length:Int) !=(t1.Kids.length:Int))
       (some 2)
       (some 0))))
  ((cond (!(t1.Shaped==r4.Shaped)) (some true) (cond ((t1.aE.length:Int) !=r4.aE) (some ((t1.aE.length:Int) !=r4.l5)) (some false))).bind fun (v8:Bool)=>
   cond v8
    (some 7)
    ((cond (decide (r4.kT≥0)) (cond ((t1.Kids.length:Int) !=r4.kT) (some true) (some ((t1.Kids.length:Int)==0))) (some ((t1.Kids.length:Int)==0))).bind fun (v9:Bool)=>
    cond v9
     (some 2)
     (br (fun r=>r) (aW (j4 fu t1 dims2) fu (0,0):Option (Ex Unit Int)) fun (_:Unit)=>
      some 0)))
def fh (self:ai→(List ByteArray)→(List ByteArray)→(List bB)→Option Int) (fu:Nat) (t1:ai) (known2:List ByteArray) (dims3:List ByteArray) (ahead4:List bB):Int×Int→Option So:=fun (v9,v10)=>
 cond (decide (v10<(t1.Kids.length:Int)))
  ((idx t1.Kids v10).bind fun x11=>
   (cond (v10==1) (cond (t1.Kind==5) (some true) (some (t1.Kind==6))) (some false)).bind fun (v12:Bool)=>
   (cond v12
     ((DX (JM ((cj (([]:List ByteArray).length+known2.length≤maxLen∧(([]:List ByteArray).length+known2.length)*16≤140737488355328)).bind fun _=>
      (cj ((([]:List ByteArray)++known2).length+[t1.Name].length≤maxLen∧((([]:List ByteArray)++known2).length+[t1.Name].length)*16≤140737488355328)).bind fun _=>
      some ((([]:List ByteArray)++known2)++[t1.Name]))) ((cj (([]:List ByteArray).length+known2.length≤maxLen∧(([]:List ByteArray).length+known2.length)*16≤140737488355328)).bind fun _=>
      (cj ((([]:List ByteArray)++known2).length+[t1.Name].length≤maxLen∧((([]:List ByteArray)++known2).length+[t1.Name].length)*16≤140737488355328)).bind fun _=>
      some ((([]:List ByteArray)++known2)++[t1.Name]))).bind fun (m13:List ByteArray)=>
     some m13)
     (some known2)).bind fun (l14:List ByteArray)=>
   (self (⟨x11.Kind,x11.Name,x11.Number,x11.Shaped,x11.Shape,x11.aE,x11.Kids⟩:ai) l14 dims3 ahead4).bind fun (r15:Int)=>
   cond (r15 !=0)
    (some (.inr (.ret r15)))
    (some (.inl (v9,wrap .i64 (v10+1)))))
  (some (.inr (.bw ())))
def nu (self:ai→(List ByteArray)→(List ByteArray)→(List bB)→Option Int) (fu:Nat) (t1:ai) (known2:List ByteArray) (dims3:List ByteArray) (ahead4:List bB):Option Int:=
 (cond (t1.Kind==2) ((kG fu known2 t1.Name).bind fun (r5:Bool)=>
  some (!r5)) (some false)).bind fun (v6:Bool)=>
 cond v6
  (some 8)
  (br (fun r=>r) (cond (t1.Kind==3)
     ((lB fu (⟨t1.Kind,t1.Name,t1.Number,t1.Shaped,t1.Shape,t1.aE,t1.Kids⟩:ai) dims3 ahead4).bind fun (r7:Int)=>
     cond (r7 !=0)
      (some (.ret r7))
      (some (.bw 0)))
     (some (.bw 0)):Option (Ex Int Int)) fun (v8:Int)=>
   br (fun r=>r) (aW (fh self fu t1 known2 dims3 ahead4) fu (v8,0):Option (Ex Unit Int)) fun (_:Unit)=>
   some 0)
def eA:Nat→ai→(List ByteArray)→(List ByteArray)→(List bB)→Option Int
 | 0=>fun _ _ _ _=>none
 | fu+1=>nu (eA fu) (fu+1)
def iR (fu:Nat) (x14:eT):Int×(List ByteArray)→Option ((Int×(List ByteArray))⊕(List ByteArray)):=fun (v16,m17)=>
 cond (decide (v16<(x14.cV.length:Int)))
  ((idx x14.cV v16).bind fun x18=>
   (cond (!(x18.Name.toList==(ByteArray.mk #[]).toList))
     ((cj (m17.length+[x18.Name].length≤maxLen∧(m17.length+[x18.Name].length)*16≤140737488355328)).bind fun _=>
     some (m17++[x18.Name]))
     (some m17)).bind fun (m19:List ByteArray)=>
   some (.inl (wrap .i64 (v16+1),m19)))
  (some (.inr m17))
def gv (fu:Nat) (x6:bB):Int×Int×(List ByteArray)×(List ByteArray)→Option ((Int×Int×(List ByteArray)×(List ByteArray))⊕(Ex (Int×(List ByteArray)×(List ByteArray)) So)):=fun (v10,v11,m12,m13)=>
 cond (decide (v11<(x6.aB.length:Int)))
  ((idx x6.aB v11).bind fun x14=>
   (kG fu m13 x14.Name).bind fun (r15:Bool)=>
   cond r15
    (some (.inr (.ret (.inr (.ret 8)))))
    ((cj (m13.length+[x14.Name].length≤maxLen∧(m13.length+[x14.Name].length)*16≤140737488355328)).bind fun _=>
    (aW (iR fu x14) fu (0,m12)).bind fun (m20:List ByteArray)=>
    some (.inl (v10,wrap .i64 (v11+1),m20,m13++[x14.Name]))))
  (some (.inr (.bw (v10,m12,m13))))
def gu (fu:Nat) (p1:List bB):Int×Int→Option So:=fun (v4,v5)=>
 cond (decide (v5<(p1.length:Int)))
  ((idx p1 v5).bind fun x6=>
   ((dZ fu x6.Name).bind fun (r7:gU)=>
    cond (r7.Kind !=0) (some true) ((cj ((0:Int)≤v5∧v5≤(p1.length:Int))).bind fun _=>
    (jD fu (iJ p1 0 v5) x6.Name).bind fun (r8:Int)=>
    some (decide (r8≥0)))).bind fun (v9:Bool)=>
   cond v9
    (some (.inr (.ret 8)))
    (br (fun r=>r) (aW (gv fu x6) fu (v4,0,([]:List ByteArray),([]:List ByteArray)):Option (Ex (Int×(List ByteArray)×(List ByteArray)) So)) fun ((v21,m22,m23):Int×(List ByteArray)×(List ByteArray))=>
    (cj ((0:Int)≤v5∧v5≤(p1.length:Int))).bind fun _=>
    (eA fu (⟨x6.Body.Kind,x6.Body.Name,x6.Body.Number,x6.Body.Shaped,x6.Body.Shape,x6.Body.aE,x6.Body.Kids⟩:ai) m23 m22 (iJ p1 0 v5)).bind fun (r24:Int)=>
    cond (r24 !=0)
     (some (.inr (.ret r24)))
     (some (.inl (v21,wrap .i64 (v5+1))))))
  (some (.inr (.bw ())))
def lP (fu:Nat) (p1:List bB):Option Int:=
 (lQ fu p1).bind fun ((r2,r3):ByteArray×Int)=>
 cond (r3 !=0)
  (some r3)
  (br (fun r=>r) (aW (gu fu p1) fu (0,0):Option (Ex Unit Int)) fun (_:Unit)=>
   some 0)
def jI (fu:Nat) (p1:List bB):Option Bool:=
 (uW fu p1).bind fun (r2:Int)=>
 (lP fu p1).bind fun (r3:Int)=>
 some (r2==r3)
end F
end
end Go.DN
