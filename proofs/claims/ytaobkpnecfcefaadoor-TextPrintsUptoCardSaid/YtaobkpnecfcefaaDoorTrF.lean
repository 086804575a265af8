/-
  The functions, as Lean functions over data.
-/
import Derived.Test.YtaobkpnecfcefaaDoorTrS
set_option maxRecDepth 20000
set_option linter.unusedVariables false
set_option linter.unusedSimpArgs false
namespace Go.DN
open Go.AM
noncomputable section
open Go.IntKind (wrap)
open Int (toNat)
namespace F
def strings_Builder_WriteString (fu:Nat) (s1:ByteArray) (m2:Bool) (m3:Int) (m4:Bool) (m5:List Int):Option (Int×Int×Bool×(List Int)):=
 (copyF m2 m3 m4 m5).bind fun ((r6,r7,r8):Int×Bool×(List Int))=>
 bif Nat.beq (List.length r8) (List.length m5) then
 (chk (r8.length+s1.size≤140737488355328)).bind fun _=>
 some ((s1.size:Int),r6,r7,r8++bytesI s1)
 else none
def text_writer_put_l1 (fu:Nat) (l1:List ByteArray):Int×Bool×Int×Bool×(List Int)→Option ((Int×Bool×Int×Bool×(List Int))⊕(Bool×Int×Bool×(List Int))):=fun (v6,m7,m8,m9,m10)=>
 cond (decide (v6<(l1.length:Int)))
  ((idx l1 v6).bind fun x11=>
   (strings_Builder_WriteString fu x11 m7 m8 m9 m10).bind fun ((r12,r13,r14,r15):Int×Int×Bool×(List Int))=>
   some (.inl (wrap .i64 (v6+1),false,r13,r14,r15)))
  (some (.inr (m7,m8,m9,m10)))
def text_writer_put (fu:Nat) (l1:List ByteArray) (m2:Bool) (m3:Int) (m4:Bool) (m5:List Int):Option (Bool×Int×Bool×(List Int)):=
 (loopF (text_writer_put_l1 fu l1) fu (0,m2,m3,m4,m5)).bind fun ((m16,m17,m18,m19):Bool×Int×Bool×(List Int))=>
 some (m16,m17,m18,m19)
def text_letter (fu:Nat) (c1:Int):Option Bool:=
 (cond (decide (c1≥97)) (cond (decide (c1≤122)) (some true) (cond (decide (c1≥65)) (cond (decide (c1≤90)) (some true) (some (c1==95))) (some (c1==95)))) (cond (decide (c1≥65)) (cond (decide (c1≤90)) (some true) (some (c1==95))) (some (c1==95)))).bind fun (v2:Bool)=>
 some v2
def text_keyword (fu:Nat) (s1:ByteArray):Option Bool:=
 (cond (s1.toList==(ByteArray.mk #[102,110]).toList)
   (some (s1.toList==(ByteArray.mk #[102,110]).toList))
   ((cond (s1.toList==(ByteArray.mk #[108,101,116]).toList)
      (some (s1.toList==(ByteArray.mk #[108,101,116]).toList))
      ((cond (s1.toList==(ByteArray.mk #[105,110]).toList)
        (some (s1.toList==(ByteArray.mk #[105,110]).toList))
        ((cond (s1.toList==(ByteArray.mk #[114,101,112,101,97,116]).toList)
           (some (s1.toList==(ByteArray.mk #[114,101,112,101,97,116]).toList))
           (some (s1.toList==(ByteArray.mk #[119,105,116,104]).toList))).bind fun (v2:Bool)=>
         some v2)).bind fun (v3:Bool)=>
      some v3)).bind fun (v4:Bool)=>
    some v4)).bind fun (v5:Bool)=>
 cond v5
  (some true)
  (some false)
def text_digit (fu:Nat) (c1:Int):Option Bool:=
 (cond (decide (c1≥48)) (some (decide (c1≤57))) (some false)).bind fun (v2:Bool)=>
 some v2
def text_plainName_l1 (fu:Nat) (s1:ByteArray):Bool×Int→Option ((Bool×Int)⊕(Ex Unit Bool)):=fun (v6,v7)=>
 cond (decide (v7<(s1.size:Int)))
  (((bidx s1 v7).bind fun c8=>
    (text_letter fu ((c8.toNat:Nat):Int)).bind fun (r9:Bool)=>
    cond (!r9) ((bidx s1 v7).bind fun c10=>
    (text_digit fu ((c10.toNat:Nat):Int)).bind fun (r11:Bool)=>
    some (!r11)) (some false)).bind fun (v12:Bool)=>
   cond v12
    (some (.inr (.ret false)))
    (some (.inl (v6,wrap .i64 (v7+1)))))
  (some (.inr (.brk ())))
def text_plainName (fu:Nat) (s1:ByteArray):Option Bool:=
 (cond (s1.toList==(ByteArray.mk #[]).toList) (some true) ((bidx s1 0).bind fun c2=>
  (text_letter fu ((c2.toNat:Nat):Int)).bind fun (r3:Bool)=>
  cond (!r3) (some true) ((text_keyword fu s1).bind fun (r4:Bool)=>
  some r4))).bind fun (v5:Bool)=>
 cond v5
  (some false)
  (bindE (fun r=>r) (loopF (text_plainName_l1 fu s1) fu (false,0):Option (Ex Unit Bool)) fun (_:Unit)=>
   some true)
def text_writer_name (fu:Nat) (s1:ByteArray) (m2:Bool) (m3:Int) (m4:Bool) (m5:List Int):Option ((Bool×Int×Bool×(List Int))⊕((Int×Int)×(Bool×Int×Bool×(List Int)))):=
 (text_plainName fu s1).bind fun (r6:Bool)=>
 cond (!r6)
  (some (.inr ((7,0),(m2,m3,m4,m5))))
  ((text_writer_put fu [s1] m2 m3 m4 m5).bind fun ((r7,r8,r9,r10):Bool×Int×Bool×(List Int))=>
   some (.inl (r7,r8,r9,r10)))
def text_writer_number (fu:Nat) (n1:Int) (m2:Bool) (m3:Int) (m4:Bool) (m5:List Int):Option ((Bool×Int×Bool×(List Int))⊕((Int×Int)×(Bool×Int×Bool×(List Int)))):=
 cond (decide (n1<0))
  (some (.inr ((7,0),(m2,m3,m4,m5))))
  ((fmtI n1 10).bind fun (r6:ByteArray)=>
   (text_writer_put fu [r6] m2 m3 m4 m5).bind fun ((r7,r8,r9,r10):Bool×Int×Bool×(List Int))=>
   some (.inl (r7,r8,r9,r10)))
def text_writer_shape_l1 (fu:Nat) (l1:List SDim):Int×Bool×Int×Bool×(List Int)→Option ((Int×Bool×Int×Bool×(List Int))⊕(Ex (Bool×Int×Bool×(List Int)) ((Bool×Int×Bool×(List Int))⊕((Int×Int)×(Bool×Int×Bool×(List Int)))))):=fun (v10,m11,m12,m13,m14)=>
 cond (decide (v10<(l1.length:Int)))
  ((idx l1 v10).bind fun x15=>
   (cond (decide (v10>0))
     ((text_writer_put fu [(ByteArray.mk #[32])] m11 m12 m13 m14).bind fun ((r16,r17,r18,r19):Bool×Int×Bool×(List Int))=>
     some (r16,r17,r18,r19))
     (some (m11,m12,m13,m14))).bind fun ((m20,m21,m22,m23):Bool×Int×Bool×(List Int))=>
   bindE (fun r=>r) (cond (x15.Name.toList==(ByteArray.mk #[]).toList)
     (bindP (text_writer_number fu x15.Size m20 m21 m22 m23)
      (fun ((r24,r25,r26,r27):Bool×Int×Bool×(List Int))=>
       some (.brk (r24,r25,r26,r27)))
      (fun ((e28,e29),(r30,r31,r32,r33))=>
       some (.ret (.inr (.ret (.inr ((e28,e29),(r30,r31,r32,r33))))))))
     (cond (x15.Size !=0)
      (some (.ret (.inr (.ret (.inr ((7,0),(m20,m21,m22,m23)))))))
      (bindP (text_writer_name fu x15.Name m20 m21 m22 m23)
        (fun ((r34,r35,r36,r37):Bool×Int×Bool×(List Int))=>
         some (.brk (r34,r35,r36,r37)))
        (fun ((e38,e39),(r40,r41,r42,r43))=>
         some (.ret (.inr (.ret (.inr ((e38,e39),(r40,r41,r42,r43))))))))):Option (Ex (Bool×Int×Bool×(List Int)) ((Int×Bool×Int×Bool×(List Int))⊕(Ex (Bool×Int×Bool×(List Int)) ((Bool×Int×Bool×(List Int))⊕((Int×Int)×(Bool×Int×Bool×(List Int)))))))) fun ((m44,m45,m46,m47):Bool×Int×Bool×(List Int))=>
   some (.inl (wrap .i64 (v10+1),m44,m45,m46,m47)))
  (some (.inr (.brk (m11,m12,m13,m14))))
def text_writer_shape (fu:Nat) (l1:List SDim) (m2:Bool) (m3:Int) (m4:Bool) (m5:List Int):Option ((Bool×Int×Bool×(List Int))⊕((Int×Int)×(Bool×Int×Bool×(List Int)))):=
 (text_writer_put fu [(ByteArray.mk #[91])] m2 m3 m4 m5).bind fun ((r6,r7,r8,r9):Bool×Int×Bool×(List Int))=>
 bindE (fun r=>r) (loopF (text_writer_shape_l1 fu l1) fu (0,r6,r7,r8,r9):Option (Ex (Bool×Int×Bool×(List Int)) ((Bool×Int×Bool×(List Int))⊕((Int×Int)×(Bool×Int×Bool×(List Int)))))) fun ((m48,m49,m50,m51):Bool×Int×Bool×(List Int))=>
 (text_writer_put fu [(ByteArray.mk #[93])] m48 m49 m50 m51).bind fun ((r52,r53,r54,r55):Bool×Int×Bool×(List Int))=>
 some (.inl (r52,r53,r54,r55))
def text_clean (fu:Nat) (t1:STree):Option Bool:=
 (cond (decide ((t1.Shape.length:Int)>0)) (some (!t1.Shaped)) (some false)).bind fun (v2:Bool)=>
 (cond v2
   (some v2)
   ((cond t1.Shaped (some (!(t1.Kind==3))) (some false)).bind fun (v3:Bool)=>
    (cond v3
      (some v3)
      ((cond (decide ((t1.Lists.length:Int)>0)) (some (!(t1.Kind==3))) (some false)).bind fun (v4:Bool)=>
      some v4)).bind fun (v5:Bool)=>
    some v5)).bind fun (v6:Bool)=>
 cond v6
  (some false)
  ((cond (!(t1.Name.toList==(ByteArray.mk #[]).toList)) (some (t1.Kind==1)) (some false)).bind fun (v7:Bool)=>
   (cond v7
     (some v7)
     ((cond (t1.Number !=0) (cond (t1.Kind !=1) (some (t1.Kind !=6)) (some false)) (some false)).bind fun (v8:Bool)=>
     some v8)).bind fun (v9:Bool)=>
   cond v9
    (some false)
    ((cond (t1.Kind==1)
      (some (t1.Kind==1))
      (some (t1.Kind==2))).bind fun (v10:Bool)=>
    cond v10
     (some ((t1.Kids.length:Int)==0))
     ((cond (t1.Kind==4)
        (some (t1.Kind==4))
        ((cond (t1.Kind==5)
          (some (t1.Kind==5))
          (some (t1.Kind==6))).bind fun (v11:Bool)=>
        some v11)).bind fun (v12:Bool)=>
      cond v12
       (some ((t1.Kids.length:Int)==2))
       (some (t1.Kind==3)))))
def text_writer_expr_1 (fu:Nat) (m1:Bool) (m2:Int) (m3:Bool) (m4:List Int):Option (Bool×Int×Bool×(List Int)):=
 some (m1,wrap .i64 (m2-1),m3,m4)
def text_strength (fu:Nat) (t1:STree):Option Int:=
 (cond (t1.Kind==5) (some true) (some (t1.Kind==6))).bind fun (v2:Bool)=>
 cond v2
  (some 0)
  (cond (t1.Kind !=4)
    (some 3)
    (cond (t1.Name.toList==(ByteArray.mk #[42]).toList)
     (some 2)
     (some 1)))
def text_writer_call_l1 (self:STree→Bool→Int→Bool→(List Int)→Option ((Bool×Int×Bool×(List Int))⊕((Int×Int)×(Bool×Int×Bool×(List Int))))) (fu:Nat) (x29:List Int):Int×Bool×Int×Bool×(List Int)→Option ((Int×Bool×Int×Bool×(List Int))⊕(Ex (Bool×Int×Bool×(List Int)) ((Int×Bool×Int×Bool×(List Int))⊕(Ex (Bool×Int×Bool×(List Int)) ((Bool×Int×Bool×(List Int))⊕((Int×Int)×(Bool×Int×Bool×(List Int)))))))):=fun (v34,m35,m36,m37,m38)=>
 cond (decide (v34<(x29.length:Int)))
  ((idx x29 v34).bind fun x39=>
   (cond (decide (v34>0))
     ((text_writer_put fu [(ByteArray.mk #[32])] m35 m36 m37 m38).bind fun ((r40,r41,r42,r43):Bool×Int×Bool×(List Int))=>
     some (r40,r41,r42,r43))
     (some (m35,m36,m37,m38))).bind fun ((m44,m45,m46,m47):Bool×Int×Bool×(List Int))=>
   bindP (text_writer_number fu x39 m44 m45 m46 m47)
    (fun ((r48,r49,r50,r51):Bool×Int×Bool×(List Int))=>
     some (.inl (wrap .i64 (v34+1),r48,r49,r50,r51)))
    (fun ((e52,e53),(r54,r55,r56,r57))=>
     some (.inr (.ret (.inr (.ret (.inr ((e52,e53),(r54,r55,r56,r57)))))))))
  (some (.inr (.brk (m35,m36,m37,m38))))
def text_writer_call_l2 (self:STree→Bool→Int→Bool→(List Int)→Option ((Bool×Int×Bool×(List Int))⊕((Int×Int)×(Bool×Int×Bool×(List Int))))) (fu:Nat) (t1:STree):Int×Bool×Int×Bool×(List Int)→Option ((Int×Bool×Int×Bool×(List Int))⊕(Ex (Bool×Int×Bool×(List Int)) ((Bool×Int×Bool×(List Int))⊕((Int×Int)×(Bool×Int×Bool×(List Int)))))):=fun (v24,m25,m26,m27,m28)=>
 cond (decide (v24<(t1.Lists.length:Int)))
  ((idx t1.Lists v24).bind fun x29=>
   (text_writer_put fu [(ByteArray.mk #[123])] m25 m26 m27 m28).bind fun ((r30,r31,r32,r33):Bool×Int×Bool×(List Int))=>
   bindE (fun r=>r) (loopF (text_writer_call_l1 self fu x29) fu (0,r30,r31,r32,r33):Option (Ex (Bool×Int×Bool×(List Int)) ((Int×Bool×Int×Bool×(List Int))⊕(Ex (Bool×Int×Bool×(List Int)) ((Bool×Int×Bool×(List Int))⊕((Int×Int)×(Bool×Int×Bool×(List Int)))))))) fun ((m58,m59,m60,m61):Bool×Int×Bool×(List Int))=>
   (text_writer_put fu [(ByteArray.mk #[125])] m58 m59 m60 m61).bind fun ((r62,r63,r64,r65):Bool×Int×Bool×(List Int))=>
   some (.inl (wrap .i64 (v24+1),r62,r63,r64,r65)))
  (some (.inr (.brk (m25,m26,m27,m28))))
def text_writer_call_l3 (self:STree→Bool→Int→Bool→(List Int)→Option ((Bool×Int×Bool×(List Int))⊕((Int×Int)×(Bool×Int×Bool×(List Int))))) (fu:Nat) (t1:STree):Int×Bool×Int×Bool×(List Int)→Option ((Int×Bool×Int×Bool×(List Int))⊕(Ex (Bool×Int×Bool×(List Int)) ((Bool×Int×Bool×(List Int))⊕((Int×Int)×(Bool×Int×Bool×(List Int)))))):=fun (v74,m75,m76,m77,m78)=>
 cond (decide (v74<(t1.Kids.length:Int)))
  ((idx t1.Kids v74).bind fun x79=>
   (cond (decide (v74>0))
     ((text_writer_put fu [(ByteArray.mk #[44,32])] m75 m76 m77 m78).bind fun ((r80,r81,r82,r83):Bool×Int×Bool×(List Int))=>
     some (r80,r81,r82,r83))
     (some (m75,m76,m77,m78))).bind fun ((m84,m85,m86,m87):Bool×Int×Bool×(List Int))=>
   bindP (self (⟨x79.Kind,x79.Name,x79.Number,x79.Shaped,x79.Shape,x79.Lists,x79.Kids⟩:STree) m84 m85 m86 m87)
    (fun ((r88,r89,r90,r91):Bool×Int×Bool×(List Int))=>
     some (.inl (wrap .i64 (v74+1),r88,r89,r90,r91)))
    (fun ((e92,e93),(r94,r95,r96,r97))=>
     some (.inr (.ret (.inr ((e92,e93),(r94,r95,r96,r97)))))))
  (some (.inr (.brk (m75,m76,m77,m78))))
def text_writer_call (self:STree→Bool→Int→Bool→(List Int)→Option ((Bool×Int×Bool×(List Int))⊕((Int×Int)×(Bool×Int×Bool×(List Int))))) (fu:Nat) (t1:STree) (m2:Bool) (m3:Int) (m4:Bool) (m5:List Int):Option ((Bool×Int×Bool×(List Int))⊕((Int×Int)×(Bool×Int×Bool×(List Int)))):=
 bindP (text_writer_name fu t1.Name m2 m3 m4 m5)
  (fun ((r6,r7,r8,r9):Bool×Int×Bool×(List Int))=>
   bindE (fun r=>r) (cond t1.Shaped
     (bindP (text_writer_shape fu t1.Shape r6 r7 r8 r9)
       (fun ((r10,r11,r12,r13):Bool×Int×Bool×(List Int))=>
        some (.brk (r10,r11,r12,r13)))
       (fun ((e14,e15),(r16,r17,r18,r19))=>
        some (.ret (.inr ((e14,e15),(r16,r17,r18,r19))))))
     (some (.brk (r6,r7,r8,r9))):Option (Ex (Bool×Int×Bool×(List Int)) ((Bool×Int×Bool×(List Int))⊕((Int×Int)×(Bool×Int×Bool×(List Int)))))) fun ((m20,m21,m22,m23):Bool×Int×Bool×(List Int))=>
   bindE (fun r=>r) (loopF (text_writer_call_l2 self fu t1) fu (0,m20,m21,m22,m23):Option (Ex (Bool×Int×Bool×(List Int)) ((Bool×Int×Bool×(List Int))⊕((Int×Int)×(Bool×Int×Bool×(List Int)))))) fun ((m66,m67,m68,m69):Bool×Int×Bool×(List Int))=>
   (text_writer_put fu [(ByteArray.mk #[40])] m66 m67 m68 m69).bind fun ((r70,r71,r72,r73):Bool×Int×Bool×(List Int))=>
   bindE (fun r=>r) (loopF (text_writer_call_l3 self fu t1) fu (0,r70,r71,r72,r73):Option (Ex (Bool×Int×Bool×(List Int)) ((Bool×Int×Bool×(List Int))⊕((Int×Int)×(Bool×Int×Bool×(List Int)))))) fun ((m98,m99,m100,m101):Bool×Int×Bool×(List Int))=>
   (text_writer_put fu [(ByteArray.mk #[41])] m98 m99 m100 m101).bind fun ((r102,r103,r104,r105):Bool×Int×Bool×(List Int))=>
   some (.inl (r102,r103,r104,r105)))
  (fun ((e106,e107),(r108,r109,r110,r111))=>
   some (.inr ((e106,e107),(r108,r109,r110,r111))))
def text_writer_two (self:STree→Int→Int→Bool→Int→Bool→(List Int)→Option ((Bool×Int×Bool×(List Int))⊕((Int×Int)×(Bool×Int×Bool×(List Int))))) (fu:Nat) (t1:STree) (s2:Int) (length3:Int) (m4:Bool) (m5:Int) (m6:Bool) (m7:List Int):Option ((Bool×Int×Bool×(List Int))⊕((Int×Int)×(Bool×Int×Bool×(List Int)))):=
 (cond (!(t1.Name.toList==(ByteArray.mk #[43]).toList)) (cond (!(t1.Name.toList==(ByteArray.mk #[45]).toList)) (some (!(t1.Name.toList==(ByteArray.mk #[42]).toList))) (some false)) (some false)).bind fun (v8:Bool)=>
 cond v8
  (some (.inr ((7,0),(m4,m5,m6,m7))))
  ((cond m6 (some (m4,m5,true)) (some (m4,m5,decide (length3>64)))).bind fun ((m9,m10,m11):Bool×Int×Bool)=>
   (idx t1.Kids 0).bind fun x12=>
   (text_strength fu x12).bind fun (r13:Int)=>
   (cond (r13==s2)
     (some (wrap .i64 (length3+1)))
     (some 1)).bind fun (n14:Int)=>
   (idx t1.Kids 0).bind fun x15=>
   bindP (self x15 s2 n14 m9 m10 m11 m7)
    (fun ((r16,r17,r18,r19):Bool×Int×Bool×(List Int))=>
     (text_writer_put fu [(ByteArray.mk #[32]),t1.Name,(ByteArray.mk #[32])] r16 r17 r18 r19).bind fun ((r20,r21,r22,r23):Bool×Int×Bool×(List Int))=>
     (idx t1.Kids 1).bind fun x24=>
     bindP (self x24 (wrap .i64 (s2+1)) 1 r20 r21 r22 r23)
      (fun ((r25,r26,r27,r28):Bool×Int×Bool×(List Int))=>
       some (.inl (r25,r26,r27,r28)))
      (fun ((e29,e30),(r31,r32,r33,r34))=>
       some (.inr ((e29,e30),(r31,r32,r33,r34)))))
    (fun ((e35,e36),(r37,r38,r39,r40))=>
     some (.inr ((e35,e36),(r37,r38,r39,r40)))))
def text_writer_part_b (self:STree→Bool→Int→Bool→(List Int)→Option ((Bool×Int×Bool×(List Int))⊕((Int×Int)×(Bool×Int×Bool×(List Int))))) (self2:STree→Int→Int→Bool→Int→Bool→(List Int)→Option ((Bool×Int×Bool×(List Int))⊕((Int×Int)×(Bool×Int×Bool×(List Int))))) (fu:Nat) (t1:STree) (least2:Int) (length3:Int) (m4:Bool) (m5:Int) (m6:Bool) (m7:List Int):Option ((Bool×Int×Bool×(List Int))⊕((Int×Int)×(Bool×Int×Bool×(List Int)))):=
 (text_clean fu (⟨t1.Kind,t1.Name,t1.Number,t1.Shaped,t1.Shape,t1.Lists,t1.Kids⟩:STree)).bind fun (r8:Bool)=>
 cond (!r8)
  (some (.inr ((7,0),(m4,m5,m6,m7))))
  ((text_strength fu (⟨t1.Kind,t1.Name,t1.Number,t1.Shaped,t1.Shape,t1.Lists,t1.Kids⟩:STree)).bind fun (r9:Int)=>
   cond (decide (r9<least2))
    ((text_writer_put fu [(ByteArray.mk #[40])] m4 m5 m6 m7).bind fun ((r10,r11,r12,r13):Bool×Int×Bool×(List Int))=>
    bindP (self (⟨t1.Kind,t1.Name,t1.Number,t1.Shaped,t1.Shape,t1.Lists,t1.Kids⟩:STree) r10 r11 r12 r13)
     (fun ((r14,r15,r16,r17):Bool×Int×Bool×(List Int))=>
      (text_writer_put fu [(ByteArray.mk #[41])] r14 r15 r16 r17).bind fun ((r18,r19,r20,r21):Bool×Int×Bool×(List Int))=>
      some (.inl (r18,r19,r20,r21)))
     (fun ((e22,e23),(r24,r25,r26,r27))=>
      some (.inr ((e22,e23),(r24,r25,r26,r27)))))
    (bindE (fun r=>r) (cond (t1.Kind==1)
      (bindP (text_writer_number fu t1.Number m4 m5 m6 m7)
        (fun ((r28,r29,r30,r31):Bool×Int×Bool×(List Int))=>
         some (.brk (r28,r29,r30,r31)))
        (fun ((e32,e33),(r34,r35,r36,r37))=>
         some (.ret (.inr ((e32,e33),(r34,r35,r36,r37))))))
      (bindE (fun r=>r) (cond (t1.Kind==2)
         (bindP (text_writer_name fu t1.Name m4 m5 m6 m7)
          (fun ((r38,r39,r40,r41):Bool×Int×Bool×(List Int))=>
           some (.brk (r38,r39,r40,r41)))
          (fun ((e42,e43),(r44,r45,r46,r47))=>
           some (.ret (.ret (.inr ((e42,e43),(r44,r45,r46,r47)))))))
         (bindE (fun r=>r) (cond (t1.Kind==4)
           (bindP (text_writer_two self2 fu (⟨t1.Kind,t1.Name,t1.Number,t1.Shaped,t1.Shape,t1.Lists,t1.Kids⟩:STree) r9 length3 m4 m5 m6 m7)
             (fun ((r48,r49,r50,r51):Bool×Int×Bool×(List Int))=>
              some (.brk (r48,r49,r50,r51)))
             (fun ((e52,e53),(r54,r55,r56,r57))=>
              some (.ret (.ret (.ret (.inr ((e52,e53),(r54,r55,r56,r57))))))))
           (bindP (text_writer_call self fu (⟨t1.Kind,t1.Name,t1.Number,t1.Shaped,t1.Shape,t1.Lists,t1.Kids⟩:STree) m4 m5 m6 m7)
             (fun ((r58,r59,r60,r61):Bool×Int×Bool×(List Int))=>
              some (.brk (r58,r59,r60,r61)))
             (fun ((e62,e63),(r64,r65,r66,r67))=>
              some (.ret (.ret (.ret (.inr ((e62,e63),(r64,r65,r66,r67)))))))):Option (Ex (Bool×Int×Bool×(List Int)) (Ex (Bool×Int×Bool×(List Int)) (Ex (Bool×Int×Bool×(List Int)) ((Bool×Int×Bool×(List Int))⊕((Int×Int)×(Bool×Int×Bool×(List Int)))))))) fun ((m68,m69,m70,m71):Bool×Int×Bool×(List Int))=>
         some (.brk (m68,m69,m70,m71))):Option (Ex (Bool×Int×Bool×(List Int)) (Ex (Bool×Int×Bool×(List Int)) ((Bool×Int×Bool×(List Int))⊕((Int×Int)×(Bool×Int×Bool×(List Int))))))) fun ((m72,m73,m74,m75):Bool×Int×Bool×(List Int))=>
       some (.brk (m72,m73,m74,m75))):Option (Ex (Bool×Int×Bool×(List Int)) ((Bool×Int×Bool×(List Int))⊕((Int×Int)×(Bool×Int×Bool×(List Int)))))) fun ((m76,m77,m78,m79):Bool×Int×Bool×(List Int))=>
    some (.inl (m76,m77,m78,m79))))
def text_writer_part (self:STree→Bool→Int→Bool→(List Int)→Option ((Bool×Int×Bool×(List Int))⊕((Int×Int)×(Bool×Int×Bool×(List Int))))):Nat→STree→Int→Int→Bool→Int→Bool→(List Int)→Option ((Bool×Int×Bool×(List Int))⊕((Int×Int)×(Bool×Int×Bool×(List Int))))
 | 0=>fun _ _ _ _ _ _ _=>none
 | fu+1=>text_writer_part_b self (text_writer_part self fu) (fu+1)
def text_writer_expr_b (self:STree→Bool→Int→Bool→(List Int)→Option ((Bool×Int×Bool×(List Int))⊕((Int×Int)×(Bool×Int×Bool×(List Int))))) (fu:Nat) (t1:STree) (m2:Bool) (m3:Int) (m4:Bool) (m5:List Int):Option ((Bool×Int×Bool×(List Int))⊕((Int×Int)×(Bool×Int×Bool×(List Int)))):=
 (text_clean fu (⟨t1.Kind,t1.Name,t1.Number,t1.Shaped,t1.Shape,t1.Lists,t1.Kids⟩:STree)).bind fun (r6:Bool)=>
 cond (!r6)
  ((text_writer_expr_1 fu m2 (wrap .i64 (m3+1)) m4 m5).bind fun ((r7,r8,r9,r10):Bool×Int×Bool×(List Int))=>
   bif Nat.beq (List.length r10) (List.length m5) then
   some (.inr ((7,0),(r7,r8,r9,r10)))
   else none)
  ((cond m4 (some (m2,wrap .i64 (m3+1),true)) (some (m2,wrap .i64 (m3+1),decide ((wrap .i64 (m3+1))>64)))).bind fun ((m11,m12,m13):Bool×Int×Bool)=>
   bindE (fun r=>r) (cond (t1.Kind==5)
     ((text_writer_put fu [(ByteArray.mk #[108,101,116,32])] m11 m12 m13 m5).bind fun ((r14,r15,r16,r17):Bool×Int×Bool×(List Int))=>
     bindP (text_writer_name fu t1.Name r14 r15 r16 r17)
      (fun ((r18,r19,r20,r21):Bool×Int×Bool×(List Int))=>
       (text_writer_put fu [(ByteArray.mk #[32,61,32])] r18 r19 r20 r21).bind fun ((r22,r23,r24,r25):Bool×Int×Bool×(List Int))=>
       (idx t1.Kids 0).bind fun x26=>
       bindP (self x26 r22 r23 r24 r25)
        (fun ((r27,r28,r29,r30):Bool×Int×Bool×(List Int))=>
         (text_writer_put fu [(ByteArray.mk #[32,105,110,32])] r27 r28 r29 r30).bind fun ((r31,r32,r33,r34):Bool×Int×Bool×(List Int))=>
         (idx t1.Kids 1).bind fun x35=>
         bindP (self x35 r31 r32 r33 r34)
          (fun ((r36,r37,r38,r39):Bool×Int×Bool×(List Int))=>
           some (.brk (r36,r37,r38,r39)))
          (fun ((e40,e41),(r42,r43,r44,r45))=>
           ((text_writer_expr_1 fu r42 r43 r44 r45).bind fun ((r46,r47,r48,r49):Bool×Int×Bool×(List Int))=>
            bif Nat.beq (List.length r49) (List.length r45) then
            some (.inr ((e40,e41),(r46,r47,r48,r49)))
            else none).bind fun r=>some (.ret r)))
        (fun ((e50,e51),(r52,r53,r54,r55))=>
         ((text_writer_expr_1 fu r52 r53 r54 r55).bind fun ((r56,r57,r58,r59):Bool×Int×Bool×(List Int))=>
          bif Nat.beq (List.length r59) (List.length r55) then
          some (.inr ((e50,e51),(r56,r57,r58,r59)))
          else none).bind fun r=>some (.ret r)))
      (fun ((e60,e61),(r62,r63,r64,r65))=>
       ((text_writer_expr_1 fu r62 r63 r64 r65).bind fun ((r66,r67,r68,r69):Bool×Int×Bool×(List Int))=>
        bif Nat.beq (List.length r69) (List.length r65) then
        some (.inr ((e60,e61),(r66,r67,r68,r69)))
        else none).bind fun r=>some (.ret r)))
     (bindE (fun r=>r) (cond (t1.Kind==6)
       ((text_writer_put fu [(ByteArray.mk #[114,101,112,101,97,116,32])] m11 m12 m13 m5).bind fun ((r70,r71,r72,r73):Bool×Int×Bool×(List Int))=>
        bindP (text_writer_number fu t1.Number r70 r71 r72 r73)
         (fun ((r74,r75,r76,r77):Bool×Int×Bool×(List Int))=>
          (text_writer_put fu [(ByteArray.mk #[32])] r74 r75 r76 r77).bind fun ((r78,r79,r80,r81):Bool×Int×Bool×(List Int))=>
          bindP (text_writer_name fu t1.Name r78 r79 r80 r81)
           (fun ((r82,r83,r84,r85):Bool×Int×Bool×(List Int))=>
            (text_writer_put fu [(ByteArray.mk #[32,61,32])] r82 r83 r84 r85).bind fun ((r86,r87,r88,r89):Bool×Int×Bool×(List Int))=>
            (idx t1.Kids 0).bind fun x90=>
            bindP (self x90 r86 r87 r88 r89)
             (fun ((r91,r92,r93,r94):Bool×Int×Bool×(List Int))=>
              (text_writer_put fu [(ByteArray.mk #[32,119,105,116,104,32])] r91 r92 r93 r94).bind fun ((r95,r96,r97,r98):Bool×Int×Bool×(List Int))=>
              (idx t1.Kids 1).bind fun x99=>
              bindP (self x99 r95 r96 r97 r98)
               (fun ((r100,r101,r102,r103):Bool×Int×Bool×(List Int))=>
                some (.brk (r100,r101,r102,r103)))
               (fun ((e104,e105),(r106,r107,r108,r109))=>
                (((text_writer_expr_1 fu r106 r107 r108 r109).bind fun ((r110,r111,r112,r113):Bool×Int×Bool×(List Int))=>
                  bif Nat.beq (List.length r113) (List.length r109) then
                  some (.inr ((e104,e105),(r110,r111,r112,r113)))
                  else none).bind fun r=>some (.ret r)).bind fun r=>some (.ret r)))
             (fun ((e114,e115),(r116,r117,r118,r119))=>
              (((text_writer_expr_1 fu r116 r117 r118 r119).bind fun ((r120,r121,r122,r123):Bool×Int×Bool×(List Int))=>
                bif Nat.beq (List.length r123) (List.length r119) then
                some (.inr ((e114,e115),(r120,r121,r122,r123)))
                else none).bind fun r=>some (.ret r)).bind fun r=>some (.ret r)))
           (fun ((e124,e125),(r126,r127,r128,r129))=>
            (((text_writer_expr_1 fu r126 r127 r128 r129).bind fun ((r130,r131,r132,r133):Bool×Int×Bool×(List Int))=>
              bif Nat.beq (List.length r133) (List.length r129) then
              some (.inr ((e124,e125),(r130,r131,r132,r133)))
              else none).bind fun r=>some (.ret r)).bind fun r=>some (.ret r)))
         (fun ((e134,e135),(r136,r137,r138,r139))=>
          (((text_writer_expr_1 fu r136 r137 r138 r139).bind fun ((r140,r141,r142,r143):Bool×Int×Bool×(List Int))=>
            bif Nat.beq (List.length r143) (List.length r139) then
            some (.inr ((e134,e135),(r140,r141,r142,r143)))
            else none).bind fun r=>some (.ret r)).bind fun r=>some (.ret r)))
       (bindP (text_writer_part self fu (⟨t1.Kind,t1.Name,t1.Number,t1.Shaped,t1.Shape,t1.Lists,t1.Kids⟩:STree) 0 1 m11 m12 m13 m5)
         (fun ((r144,r145,r146,r147):Bool×Int×Bool×(List Int))=>
          some (.brk (r144,r145,r146,r147)))
         (fun ((e148,e149),(r150,r151,r152,r153))=>
          (((text_writer_expr_1 fu r150 r151 r152 r153).bind fun ((r154,r155,r156,r157):Bool×Int×Bool×(List Int))=>
            bif Nat.beq (List.length r157) (List.length r153) then
            some (.inr ((e148,e149),(r154,r155,r156,r157)))
            else none).bind fun r=>some (.ret r)).bind fun r=>some (.ret r))):Option (Ex (Bool×Int×Bool×(List Int)) (Ex (Bool×Int×Bool×(List Int)) ((Bool×Int×Bool×(List Int))⊕((Int×Int)×(Bool×Int×Bool×(List Int))))))) fun ((m158,m159,m160,m161):Bool×Int×Bool×(List Int))=>
     some (.brk (m158,m159,m160,m161))):Option (Ex (Bool×Int×Bool×(List Int)) ((Bool×Int×Bool×(List Int))⊕((Int×Int)×(Bool×Int×Bool×(List Int)))))) fun ((m162,m163,m164,m165):Bool×Int×Bool×(List Int))=>
   (text_writer_expr_1 fu m162 m163 m164 m165).bind fun ((r166,r167,r168,r169):Bool×Int×Bool×(List Int))=>
   bif Nat.beq (List.length r169) (List.length m165) then
   some (.inl (r166,r167,r168,r169))
   else none)
def text_writer_expr:Nat→STree→Bool→Int→Bool→(List Int)→Option ((Bool×Int×Bool×(List Int))⊕((Int×Int)×(Bool×Int×Bool×(List Int))))
 | 0=>fun _ _ _ _ _=>none
 | fu+1=>text_writer_expr_b (text_writer_expr fu) (fu+1)
def text_writer_function_l1 (fu:Nat) (f1:SFunc):Int×Bool×Int×Bool×(List Int)→Option ((Int×Bool×Int×Bool×(List Int))⊕(Ex (Bool×Int×Bool×(List Int)) ((Bool×Int×Bool×(List Int))⊕((Int×Int)×(Bool×Int×Bool×(List Int)))))):=fun (v18,m19,m20,m21,m22)=>
 cond (decide (v18<(f1.Given.length:Int)))
  ((idx f1.Given v18).bind fun x23=>
   (cond (decide (v18>0))
     ((text_writer_put fu [(ByteArray.mk #[44,32])] m19 m20 m21 m22).bind fun ((r24,r25,r26,r27):Bool×Int×Bool×(List Int))=>
     some (r24,r25,r26,r27))
     (some (m19,m20,m21,m22))).bind fun ((m28,m29,m30,m31):Bool×Int×Bool×(List Int))=>
   bindP (text_writer_name fu x23.Name m28 m29 m30 m31)
    (fun ((r32,r33,r34,r35):Bool×Int×Bool×(List Int))=>
     (text_writer_put fu [(ByteArray.mk #[58,32])] r32 r33 r34 r35).bind fun ((r36,r37,r38,r39):Bool×Int×Bool×(List Int))=>
     bindP (text_writer_shape fu x23.Dims r36 r37 r38 r39)
      (fun ((r40,r41,r42,r43):Bool×Int×Bool×(List Int))=>
       some (.inl (wrap .i64 (v18+1),r40,r41,r42,r43)))
      (fun ((e44,e45),(r46,r47,r48,r49))=>
       some (.inr (.ret (.inr ((e44,e45),(r46,r47,r48,r49)))))))
    (fun ((e50,e51),(r52,r53,r54,r55))=>
     some (.inr (.ret (.inr ((e50,e51),(r52,r53,r54,r55)))))))
  (some (.inr (.brk (m19,m20,m21,m22))))
def text_writer_function (fu:Nat) (f1:SFunc) (m2:Bool) (m3:Int) (m4:Bool) (m5:List Int):Option ((Bool×Int×Bool×(List Int))⊕((Int×Int)×(Bool×Int×Bool×(List Int)))):=
 (text_writer_put fu [(ByteArray.mk #[102,110,32])] m2 m3 m4 m5).bind fun ((r6,r7,r8,r9):Bool×Int×Bool×(List Int))=>
 bindP (text_writer_name fu f1.Name r6 r7 r8 r9)
  (fun ((r10,r11,r12,r13):Bool×Int×Bool×(List Int))=>
   (text_writer_put fu [(ByteArray.mk #[40])] r10 r11 r12 r13).bind fun ((r14,r15,r16,r17):Bool×Int×Bool×(List Int))=>
   bindE (fun r=>r) (loopF (text_writer_function_l1 fu f1) fu (0,r14,r15,r16,r17):Option (Ex (Bool×Int×Bool×(List Int)) ((Bool×Int×Bool×(List Int))⊕((Int×Int)×(Bool×Int×Bool×(List Int)))))) fun ((m56,m57,m58,m59):Bool×Int×Bool×(List Int))=>
   (text_writer_put fu [(ByteArray.mk #[41,32,61,32])] m56 m57 m58 m59).bind fun ((r60,r61,r62,r63):Bool×Int×Bool×(List Int))=>
   bindP (text_writer_expr fu (⟨f1.Body.Kind,f1.Body.Name,f1.Body.Number,f1.Body.Shaped,f1.Body.Shape,f1.Body.Lists,f1.Body.Kids⟩:STree) r60 r61 r62 r63)
    (fun ((r64,r65,r66,r67):Bool×Int×Bool×(List Int))=>
     (text_writer_put fu [(ByteArray.mk #[59,10])] r64 r65 r66 r67).bind fun ((r68,r69,r70,r71):Bool×Int×Bool×(List Int))=>
     some (.inl (r68,r69,r70,r71)))
    (fun ((e72,e73),(r74,r75,r76,r77))=>
     some (.inr ((e72,e73),(r74,r75,r76,r77)))))
  (fun ((e78,e79),(r80,r81,r82,r83))=>
   some (.inr ((e78,e79),(r80,r81,r82,r83))))
def text_writer_program_l1 (fu:Nat) (p1:List SFunc):Int×Bool×Int×Bool×(List Int)→Option ((Int×Bool×Int×Bool×(List Int))⊕(Ex (Bool×Int×Bool×(List Int)) ((SFault×Bool×Int×Bool×(List Int))⊕((Int×Int)×Unit)))):=fun (v6,m7,m8,m9,m10)=>
 cond (decide (v6<(p1.length:Int)))
  ((idx p1 v6).bind fun x11=>
   bindP (text_writer_function fu (⟨x11.Name,x11.Given,(⟨x11.Body.Kind,x11.Body.Name,x11.Body.Number,x11.Body.Shaped,x11.Body.Shape,x11.Body.Lists,x11.Body.Kids⟩:STree)⟩:SFunc) m7 m8 m9 m10)
    (fun ((r12,r13,r14,r15):Bool×Int×Bool×(List Int))=>
     some (.inl (wrap .i64 (v6+1),r12,r13,r14,r15)))
    (fun ((e16,e17),(r18,r19,r20,r21))=>
     some (.inr (.ret (.inl ((⟨e16,e17⟩:SFault),r18,r19,r20,r21))))))
  (some (.inr (.brk (m7,m8,m9,m10))))
def text_writer_program_p (fu:Nat) (p1:List SFunc) (m2:Bool) (m3:Int) (m4:Bool) (m5:List Int):Option ((SFault×Bool×Int×Bool×(List Int))⊕((Int×Int)×Unit)):=
 bindE (fun r=>r) (loopF (text_writer_program_l1 fu p1) fu (0,m2,m3,m4,m5):Option (Ex (Bool×Int×Bool×(List Int)) ((SFault×Bool×Int×Bool×(List Int))⊕((Int×Int)×Unit)))) fun ((m22,m23,m24,m25):Bool×Int×Bool×(List Int))=>
 some (.inl ((⟨0,0⟩:SFault),m22,m23,m24,m25))
def text_writer_program (fu:Nat) (p1:List SFunc) (m2:Bool) (m3:Int) (m4:Bool) (m5:List Int):Option (SFault×Bool×Int×Bool×(List Int)):=unP (text_writer_program_p fu p1 m2 m3 m4 m5)
def strings_Builder_Len (fu:Nat) (m1:Bool) (m2:Int) (m3:Bool) (m4:List Int):Option (Int×Bool×Int×Bool×(List Int)):=
 some ((m4.length:Int),m1,m2,m3,m4)
def text_Print (fu:Nat) (p1:List SFunc):Option (ByteArray×Int):=
 (some (true,0,false,([]:List Int)):Option (Bool×Int×Bool×(List Int))).bind fun ((m2,m3,m4,m5):Bool×Int×Bool×(List Int))=>
 (text_writer_program fu p1 m2 m3 m4 m5).bind fun ((r6,r7,r8,r9,r10):SFault×Bool×Int×Bool×(List Int))=>
 cond (r6.Err !=0)
  (some ((ByteArray.mk #[]),r6.Err))
  ((cond r9 (some (true,r7,r8,r9,r10)) ((strings_Builder_Len fu r7 r8 r9 r10).bind fun ((r11,r12,r13,r14,r15):Int×Bool×Int×Bool×(List Int))=>
    bif Nat.beq (List.length r15) (List.length r10) then
    some (decide (r11>65536),r12,r13,r14,r15)
    else none)).bind fun ((v16,m17,m18,m19,m20):Bool×Bool×Int×Bool×(List Int))=>
   cond v16
    (some ((ByteArray.mk #[]),5))
    ((bstrF m17 m18 m19 m20).bind fun ((r21,r22,r23,r24):ByteArray×Bool×Int×Bool)=>
    some (r21,0)))
def adjointref3_isLetter (fu:Nat) (c1:Int):Option Bool:=
 (cond (decide (97≤c1)) (cond (decide (c1≤122)) (some true) (cond (decide (65≤c1)) (cond (decide (c1≤90)) (some true) (some (c1==95))) (some (c1==95)))) (cond (decide (65≤c1)) (cond (decide (c1≤90)) (some true) (some (c1==95))) (some (c1==95)))).bind fun (v2:Bool)=>
 some v2
def adjointref3_isDigit (fu:Nat) (c1:Int):Option Bool:=
 (cond (decide (48≤c1)) (some (decide (c1≤57))) (some false)).bind fun (v2:Bool)=>
 some v2
def adjointref3_IsName_l1 (fu:Nat) (s1:ByteArray):Bool×Int→Option ((Bool×Int)⊕(Ex Unit Bool)):=fun (v5,i6)=>
 cond (decide (i6<(s1.size:Int)))
  (((bidx s1 i6).bind fun c7=>
    (adjointref3_isLetter fu ((c7.toNat:Nat):Int)).bind fun (r8:Bool)=>
    cond (!r8) ((bidx s1 i6).bind fun c9=>
    (adjointref3_isDigit fu ((c9.toNat:Nat):Int)).bind fun (r10:Bool)=>
    some (!r10)) (some false)).bind fun (v11:Bool)=>
   cond v11
    (some (.inr (.ret false)))
    (some (.inl (v5,wrap .i64 (i6+1)))))
  (some (.inr (.brk ())))
def adjointref3_IsName (fu:Nat) (s1:ByteArray):Option Bool:=
 (cond (s1.toList==(ByteArray.mk #[]).toList) (some true) ((bidx s1 0).bind fun c2=>
  (adjointref3_isLetter fu ((c2.toNat:Nat):Int)).bind fun (r3:Bool)=>
  cond (!r3) (some true) (cond (s1.toList==(ByteArray.mk #[102,110]).toList) (some true) (cond (s1.toList==(ByteArray.mk #[108,101,116]).toList) (some true) (cond (s1.toList==(ByteArray.mk #[105,110]).toList) (some true) (cond (s1.toList==(ByteArray.mk #[114,101,112,101,97,116]).toList) (some true) (some (s1.toList==(ByteArray.mk #[119,105,116,104]).toList)))))))).bind fun (v4:Bool)=>
 cond v4
  (some false)
  (bindE (fun r=>r) (loopF (adjointref3_IsName_l1 fu s1) fu (false,0):Option (Ex Unit Bool)) fun (_:Unit)=>
   some true)
def adjointref3_writable_l1 (fu:Nat) (l1:List SDim):Bool×Int→Option ((Bool×Int)⊕(Ex Unit Bool)):=fun (v2,v3)=>
 cond (decide (v3<(l1.length:Int)))
  ((idx l1 v3).bind fun x4=>
   (cond (x4.Name.toList==(ByteArray.mk #[]).toList) (cond (decide (x4.Size<0)) (some true) (cond (!(x4.Name.toList==(ByteArray.mk #[]).toList)) (cond (x4.Size !=0) (some true) ((adjointref3_IsName fu x4.Name).bind fun (r5:Bool)=>
    some (!r5))) (some false))) (cond (!(x4.Name.toList==(ByteArray.mk #[]).toList)) (cond (x4.Size !=0) (some true) ((adjointref3_IsName fu x4.Name).bind fun (r6:Bool)=>
    some (!r6))) (some false))).bind fun (v7:Bool)=>
   cond v7
    (some (.inr (.ret false)))
    (some (.inl (v2,wrap .i64 (v3+1)))))
  (some (.inr (.brk ())))
def adjointref3_writable (fu:Nat) (l1:List SDim):Option Bool:=
 bindE (fun r=>r) (loopF (adjointref3_writable_l1 fu l1) fu (false,0):Option (Ex Unit Bool)) fun (_:Unit)=>
 some true
def adjointref3_Right_l1 (self:STree→Option Bool) (fu:Nat) (t1:STree):Bool×Int→Option ((Bool×Int)⊕(Ex Bool Bool)):=fun (v2,v3)=>
 cond (decide (v3<(t1.Kids.length:Int)))
  ((idx t1.Kids v3).bind fun x4=>
   (self (⟨x4.Kind,x4.Name,x4.Number,x4.Shaped,x4.Shape,x4.Lists,x4.Kids⟩:STree)).bind fun (r5:Bool)=>
   cond (!r5)
    (some (.inr (.ret false)))
    (some (.inl (v2,wrap .i64 (v3+1)))))
  (some (.inr (.brk v2)))
def adjointref3_Right_l2 (self:STree→Option Bool) (fu:Nat) (x18:List Int):Bool×Int→Option ((Bool×Int)⊕(Ex Bool ((Bool×Int)⊕(Ex Unit Bool)))):=fun (v19,v20)=>
 cond (decide (v20<(x18.length:Int)))
  ((idx x18 v20).bind fun x21=>
   cond (decide (x21<0))
    (some (.inr (.ret (.inr (.ret false)))))
    (some (.inl (v19,wrap .i64 (v20+1)))))
  (some (.inr (.brk v19)))
def adjointref3_Right_l3 (self:STree→Option Bool) (fu:Nat) (t1:STree):Bool×Int→Option ((Bool×Int)⊕(Ex Unit Bool)):=fun (v16,v17)=>
 cond (decide (v17<(t1.Lists.length:Int)))
  ((idx t1.Lists v17).bind fun x18=>
   bindE (fun r=>r) (loopF (adjointref3_Right_l2 self fu x18) fu (v16,0):Option (Ex Bool ((Bool×Int)⊕(Ex Unit Bool)))) fun (v22:Bool)=>
   some (.inl (v22,wrap .i64 (v17+1))))
  (some (.inr (.brk ())))
def adjointref3_Right_b (self:STree→Option Bool) (fu:Nat) (t1:STree):Option Bool:=
 bindE (fun r=>r) (loopF (adjointref3_Right_l1 self fu t1) fu (false,0):Option (Ex Bool Bool)) fun (v6:Bool)=>
 (cond (!t1.Shaped) (cond ((t1.Shape.length:Int)==0) (some ((t1.Lists.length:Int)==0)) (some false)) (some false)).bind fun (bare7:Bool)=>
 cond (t1.Kind==1)
  ((cond bare7 (cond (t1.Name.toList==(ByteArray.mk #[]).toList) (cond (decide (t1.Number≥0)) (some ((t1.Kids.length:Int)==0)) (some false)) (some false)) (some false)).bind fun (v8:Bool)=>
   some v8)
  (cond (t1.Kind==2)
    ((cond bare7 ((adjointref3_IsName fu t1.Name).bind fun (r9:Bool)=>
     cond r9 (cond (t1.Number==0) (some ((t1.Kids.length:Int)==0)) (some false)) (some false)) (some false)).bind fun (v10:Bool)=>
    some v10)
    (cond (t1.Kind==4)
     ((cond bare7 (cond (t1.Name.toList==(ByteArray.mk #[43]).toList) (cond (t1.Number==0) (some ((t1.Kids.length:Int)==2)) (some false)) (cond (t1.Name.toList==(ByteArray.mk #[45]).toList) (cond (t1.Number==0) (some ((t1.Kids.length:Int)==2)) (some false)) (cond (t1.Name.toList==(ByteArray.mk #[42]).toList) (cond (t1.Number==0) (some ((t1.Kids.length:Int)==2)) (some false)) (some false)))) (some false)).bind fun (v11:Bool)=>
      some v11)
     (cond (t1.Kind==5)
       ((cond bare7 ((adjointref3_IsName fu t1.Name).bind fun (r12:Bool)=>
        cond r12 (cond (t1.Number==0) (some ((t1.Kids.length:Int)==2)) (some false)) (some false)) (some false)).bind fun (v13:Bool)=>
       some v13)
       (cond (t1.Kind==6)
        ((cond bare7 ((adjointref3_IsName fu t1.Name).bind fun (r14:Bool)=>
          cond r14 (cond (decide (t1.Number≥0)) (some ((t1.Kids.length:Int)==2)) (some false)) (some false)) (some false)).bind fun (v15:Bool)=>
         some v15)
        (cond (t1.Kind==3)
          (bindE (fun r=>r) (loopF (adjointref3_Right_l3 self fu t1) fu (v6,0):Option (Ex Unit Bool)) fun (_:Unit)=>
          ((adjointref3_IsName fu t1.Name).bind fun (r23:Bool)=>
           cond r23 (cond (t1.Number==0) (cond t1.Shaped ((adjointref3_writable fu t1.Shape).bind fun (r25:Bool)=>
           some r25) (cond ((t1.Shape.length:Int)==0) ((adjointref3_writable fu t1.Shape).bind fun (r24:Bool)=>
           some r24) (some false))) (some false)) (some false)).bind fun (v26:Bool)=>
          some v26)
          (some false))))))
def adjointref3_Right:Nat→STree→Option Bool
 | 0=>fun _=>none
 | fu+1=>adjointref3_Right_b (adjointref3_Right fu) (fu+1)
def adjointref3_Digits_b (self:Int→Option (ByteArray)) (fu:Nat) (n1:Int):Option (ByteArray):=
 cond (decide (n1<10))
  (some (strOf [wrap .u8 (wrap .i64 (48+n1))]))
  (((chk (10≠0)).bind fun _=>
    (chk (10≠0)).bind fun _=>
    amb ((self (wrap .i64 (Int.tdiv n1 10))).bind fun (r3:ByteArray)=>
    (chk (((r3.size+(strOf [wrap .u8 (wrap .i64 (48+(Int.tmod n1 10)))]).size:Nat):Int)≤9223372036854775807)).bind fun _=>
    some (r3++(strOf [wrap .u8 (wrap .i64 (48+(Int.tmod n1 10)))]))) (amb2 ((self (wrap .i64 (Int.tdiv n1 10))).bind fun (r3:ByteArray)=>
    (chk (((r3.size+(strOf [wrap .u8 (wrap .i64 (48+(Int.tmod n1 10)))]).size:Nat):Int)≤9223372036854775807)).bind fun _=>
    some (r3++(strOf [wrap .u8 (wrap .i64 (48+(Int.tmod n1 10)))]))))).bind fun (v4:ByteArray)=>
   some v4)
def adjointref3_Digits:Nat→Int→Option (ByteArray)
 | 0=>fun _=>none
 | fu+1=>adjointref3_Digits_b (adjointref3_Digits fu) (fu+1)
def adjointref3_shapeText_l1 (fu:Nat) (l1:List SDim):ByteArray×Int→Option ((ByteArray×Int)⊕ByteArray):=fun (s2,v3)=>
 cond (decide (v3<(l1.length:Int)))
  ((idx l1 v3).bind fun x4=>
   (cond (decide (v3>0))
     ((chk (((s2.size+(ByteArray.mk #[32]).size:Nat):Int)≤9223372036854775807)).bind fun _=>
     some (s2++(ByteArray.mk #[32])))
     (some s2)).bind fun (s5:ByteArray)=>
   (cond (x4.Name.toList==(ByteArray.mk #[]).toList)
     ((adjointref3_Digits fu x4.Size).bind fun (r6:ByteArray)=>
     (chk (((s5.size+r6.size:Nat):Int)≤9223372036854775807)).bind fun _=>
     some (s5++r6))
     ((chk (((s5.size+x4.Name.size:Nat):Int)≤9223372036854775807)).bind fun _=>
     some (s5++x4.Name))).bind fun (s7:ByteArray)=>
   some (.inl (s7,wrap .i64 (v3+1))))
  (some (.inr s2))
def adjointref3_shapeText (fu:Nat) (l1:List SDim):Option (ByteArray):=
 (loopF (adjointref3_shapeText_l1 fu l1) fu ((ByteArray.mk #[91]),0)).bind fun (s8:ByteArray)=>
 (chk (((s8.size+(ByteArray.mk #[93]).size:Nat):Int)≤9223372036854775807)).bind fun _=>
 some (s8++(ByteArray.mk #[93]))
def adjointref3_Power (fu:Nat) (t1:STree):Option Int:=
 (cond (t1.Kind==5) (some true) (some (t1.Kind==6))).bind fun (v2:Bool)=>
 cond v2
  (some 0)
  ((cond (t1.Kind==4) (some (t1.Name.toList==(ByteArray.mk #[42]).toList)) (some false)).bind fun (v3:Bool)=>
   cond v3
    (some 2)
    (cond (t1.Kind==4)
     (some 1)
     (some 3)))
def adjointref3_weak (fu:Nat) (t1:STree) (k2:Int):Option Bool:=
 (idx t1.Kids k2).bind fun x3=>
 (adjointref3_Power fu x3).bind fun (r4:Int)=>
 (adjointref3_Power fu (⟨t1.Kind,t1.Name,t1.Number,t1.Shaped,t1.Shape,t1.Lists,t1.Kids⟩:STree)).bind fun (r5:Int)=>
 some (decide (r4<(wrap .i64 (r5+k2))))
def adjointref3_Text_l1 (self:STree→Option (ByteArray)) (fu:Nat) (t1:STree):ByteArray×Int→Option ((ByteArray×Int)⊕ByteArray):=fun (s3,v4)=>
 cond (decide (v4<(t1.Kids.length:Int)))
  ((idx t1.Kids v4).bind fun x5=>
   (self (⟨x5.Kind,x5.Name,x5.Number,x5.Shaped,x5.Shape,x5.Lists,x5.Kids⟩:STree)).bind fun (r6:ByteArray)=>
   (adjointref3_weak fu (⟨t1.Kind,t1.Name,t1.Number,t1.Shaped,t1.Shape,t1.Lists,t1.Kids⟩:STree) v4).bind fun (r7:Bool)=>
   (cond r7
     ((chk ((((ByteArray.mk #[40]).size+r6.size:Nat):Int)≤9223372036854775807)).bind fun _=>
     (chk (((((ByteArray.mk #[40])++r6).size+(ByteArray.mk #[41]).size:Nat):Int)≤9223372036854775807)).bind fun _=>
     some (((ByteArray.mk #[40])++r6)++(ByteArray.mk #[41])))
     (some r6)).bind fun (u8:ByteArray)=>
   (cond (v4==1)
     ((chk (((s3.size+(ByteArray.mk #[32]).size:Nat):Int)≤9223372036854775807)).bind fun _=>
     (chk ((((s3++(ByteArray.mk #[32])).size+t1.Name.size:Nat):Int)≤9223372036854775807)).bind fun _=>
     (chk (((((s3++(ByteArray.mk #[32]))++t1.Name).size+(ByteArray.mk #[32]).size:Nat):Int)≤9223372036854775807)).bind fun _=>
     some (((s3++(ByteArray.mk #[32]))++t1.Name)++(ByteArray.mk #[32])))
     (some s3)).bind fun (s9:ByteArray)=>
   (chk (((s9.size+u8.size:Nat):Int)≤9223372036854775807)).bind fun _=>
   some (.inl ((s9++u8),wrap .i64 (v4+1))))
  (some (.inr s3))
def adjointref3_Text_l2 (self:STree→Option (ByteArray)) (fu:Nat) (x24:List Int):ByteArray×Int→Option ((ByteArray×Int)⊕ByteArray):=fun (s25,v26)=>
 cond (decide (v26<(x24.length:Int)))
  ((idx x24 v26).bind fun x27=>
   (cond (decide (v26>0))
     ((chk (((s25.size+(ByteArray.mk #[32]).size:Nat):Int)≤9223372036854775807)).bind fun _=>
     some (s25++(ByteArray.mk #[32])))
     (some s25)).bind fun (s28:ByteArray)=>
   (adjointref3_Digits fu x27).bind fun (r29:ByteArray)=>
   (chk (((s28.size+r29.size:Nat):Int)≤9223372036854775807)).bind fun _=>
   some (.inl ((s28++r29),wrap .i64 (v26+1))))
  (some (.inr s25))
def adjointref3_Text_l3 (self:STree→Option (ByteArray)) (fu:Nat) (t1:STree):ByteArray×Int→Option ((ByteArray×Int)⊕ByteArray):=fun (s22,v23)=>
 cond (decide (v23<(t1.Lists.length:Int)))
  ((idx t1.Lists v23).bind fun x24=>
   (chk (((s22.size+(ByteArray.mk #[123]).size:Nat):Int)≤9223372036854775807)).bind fun _=>
   (loopF (adjointref3_Text_l2 self fu x24) fu ((s22++(ByteArray.mk #[123])),0)).bind fun (s30:ByteArray)=>
   (chk (((s30.size+(ByteArray.mk #[125]).size:Nat):Int)≤9223372036854775807)).bind fun _=>
   some (.inl ((s30++(ByteArray.mk #[125])),wrap .i64 (v23+1))))
  (some (.inr s22))
def adjointref3_Text_l4 (self:STree→Option (ByteArray)) (fu:Nat) (t1:STree):ByteArray×Int→Option ((ByteArray×Int)⊕ByteArray):=fun (s32,v33)=>
 cond (decide (v33<(t1.Kids.length:Int)))
  ((idx t1.Kids v33).bind fun x34=>
   (cond (decide (v33>0))
     ((chk (((s32.size+(ByteArray.mk #[44,32]).size:Nat):Int)≤9223372036854775807)).bind fun _=>
     some (s32++(ByteArray.mk #[44,32])))
     (some s32)).bind fun (s35:ByteArray)=>
   (self (⟨x34.Kind,x34.Name,x34.Number,x34.Shaped,x34.Shape,x34.Lists,x34.Kids⟩:STree)).bind fun (r36:ByteArray)=>
   (chk (((s35.size+r36.size:Nat):Int)≤9223372036854775807)).bind fun _=>
   some (.inl ((s35++r36),wrap .i64 (v33+1))))
  (some (.inr s32))
def adjointref3_Text_b (self:STree→Option (ByteArray)) (fu:Nat) (t1:STree):Option (ByteArray):=
 cond (t1.Kind==1)
  ((adjointref3_Digits fu t1.Number).bind fun (r2:ByteArray)=>
   some r2)
  (cond (t1.Kind==2)
    (some t1.Name)
    (cond (t1.Kind==4)
     ((loopF (adjointref3_Text_l1 self fu t1) fu ((ByteArray.mk #[]),0)).bind fun (s10:ByteArray)=>
      some s10)
     (cond (t1.Kind==5)
       ((chk ((((ByteArray.mk #[108,101,116,32]).size+t1.Name.size:Nat):Int)≤9223372036854775807)).bind fun _=>
       (chk (((((ByteArray.mk #[108,101,116,32])++t1.Name).size+(ByteArray.mk #[32,61,32]).size:Nat):Int)≤9223372036854775807)).bind fun _=>
       (idx t1.Kids 0).bind fun x11=>
       (idx t1.Kids 1).bind fun x12=>
       (self x11).bind fun (r13:ByteArray)=>
       (chk ((((((ByteArray.mk #[108,101,116,32])++t1.Name)++(ByteArray.mk #[32,61,32])).size+r13.size:Nat):Int)≤9223372036854775807)).bind fun _=>
       (chk (((((((ByteArray.mk #[108,101,116,32])++t1.Name)++(ByteArray.mk #[32,61,32]))++r13).size+(ByteArray.mk #[32,105,110,32]).size:Nat):Int)≤9223372036854775807)).bind fun _=>
       (self x12).bind fun (r14:ByteArray)=>
       (chk ((((((((ByteArray.mk #[108,101,116,32])++t1.Name)++(ByteArray.mk #[32,61,32]))++r13)++(ByteArray.mk #[32,105,110,32])).size+r14.size:Nat):Int)≤9223372036854775807)).bind fun _=>
       some ((((((ByteArray.mk #[108,101,116,32])++t1.Name)++(ByteArray.mk #[32,61,32]))++r13)++(ByteArray.mk #[32,105,110,32]))++r14))
       (cond (t1.Kind==6)
        ((idx t1.Kids 0).bind fun x15=>
         (idx t1.Kids 1).bind fun x16=>
         (adjointref3_Digits fu t1.Number).bind fun (r17:ByteArray)=>
         (chk ((((ByteArray.mk #[114,101,112,101,97,116,32]).size+r17.size:Nat):Int)≤9223372036854775807)).bind fun _=>
         (chk (((((ByteArray.mk #[114,101,112,101,97,116,32])++r17).size+(ByteArray.mk #[32]).size:Nat):Int)≤9223372036854775807)).bind fun _=>
         (chk ((((((ByteArray.mk #[114,101,112,101,97,116,32])++r17)++(ByteArray.mk #[32])).size+t1.Name.size:Nat):Int)≤9223372036854775807)).bind fun _=>
         (chk (((((((ByteArray.mk #[114,101,112,101,97,116,32])++r17)++(ByteArray.mk #[32]))++t1.Name).size+(ByteArray.mk #[32,61,32]).size:Nat):Int)≤9223372036854775807)).bind fun _=>
         (self x15).bind fun (r18:ByteArray)=>
         (chk ((((((((ByteArray.mk #[114,101,112,101,97,116,32])++r17)++(ByteArray.mk #[32]))++t1.Name)++(ByteArray.mk #[32,61,32])).size+r18.size:Nat):Int)≤9223372036854775807)).bind fun _=>
         (chk (((((((((ByteArray.mk #[114,101,112,101,97,116,32])++r17)++(ByteArray.mk #[32]))++t1.Name)++(ByteArray.mk #[32,61,32]))++r18).size+(ByteArray.mk #[32,119,105,116,104,32]).size:Nat):Int)≤9223372036854775807)).bind fun _=>
         (self x16).bind fun (r19:ByteArray)=>
         (chk ((((((((((ByteArray.mk #[114,101,112,101,97,116,32])++r17)++(ByteArray.mk #[32]))++t1.Name)++(ByteArray.mk #[32,61,32]))++r18)++(ByteArray.mk #[32,119,105,116,104,32])).size+r19.size:Nat):Int)≤9223372036854775807)).bind fun _=>
         some ((((((((ByteArray.mk #[114,101,112,101,97,116,32])++r17)++(ByteArray.mk #[32]))++t1.Name)++(ByteArray.mk #[32,61,32]))++r18)++(ByteArray.mk #[32,119,105,116,104,32]))++r19))
        ((cond t1.Shaped
           ((adjointref3_shapeText fu t1.Shape).bind fun (r20:ByteArray)=>
           (chk (((t1.Name.size+r20.size:Nat):Int)≤9223372036854775807)).bind fun _=>
           some (t1.Name++r20))
           (some t1.Name)).bind fun (s21:ByteArray)=>
         (loopF (adjointref3_Text_l3 self fu t1) fu (s21,0)).bind fun (s31:ByteArray)=>
         (chk (((s31.size+(ByteArray.mk #[40]).size:Nat):Int)≤9223372036854775807)).bind fun _=>
         (loopF (adjointref3_Text_l4 self fu t1) fu ((s31++(ByteArray.mk #[40])),0)).bind fun (s37:ByteArray)=>
         (chk (((s37.size+(ByteArray.mk #[41]).size:Nat):Int)≤9223372036854775807)).bind fun _=>
         some (s37++(ByteArray.mk #[41])))))))
def adjointref3_Text:Nat→STree→Option (ByteArray)
 | 0=>fun _=>none
 | fu+1=>adjointref3_Text_b (adjointref3_Text fu) (fu+1)
def adjointref3_Levels_l1 (self:STree→Option Int) (fu:Nat) (t1:STree):Int×Int→Option ((Int×Int)⊕Int):=fun (n2,v3)=>
 cond (decide (v3<(t1.Kids.length:Int)))
  ((idx t1.Kids v3).bind fun x4=>
   (self (⟨x4.Kind,x4.Name,x4.Number,x4.Shaped,x4.Shape,x4.Lists,x4.Kids⟩:STree)).bind fun (r5:Int)=>
   (cond (t1.Kind==4) ((adjointref3_weak fu (⟨t1.Kind,t1.Name,t1.Number,t1.Shaped,t1.Shape,t1.Lists,t1.Kids⟩:STree) v3).bind fun (r7:Bool)=>
    some (!r7)) (some false)).bind fun (v8:Bool)=>
   (cond v8
     (some (wrap .i64 (r5-1)))
     (some r5)).bind fun (m9:Int)=>
   (cond (decide (m9>n2))
     (some m9)
     (some n2)).bind fun (n10:Int)=>
   some (.inl (n10,wrap .i64 (v3+1))))
  (some (.inr n2))
def adjointref3_Levels_b (self:STree→Option Int) (fu:Nat) (t1:STree):Option Int:=
 (loopF (adjointref3_Levels_l1 self fu t1) fu (0,0)).bind fun (n11:Int)=>
 some (wrap .i64 (n11+1))
def adjointref3_Levels:Nat→STree→Option Int
 | 0=>fun _=>none
 | fu+1=>adjointref3_Levels_b (adjointref3_Levels fu) (fu+1)
def adjointref3_Chain_b (self:STree→Option Int) (fu:Nat) (t1:STree):Option Int:=
 cond (t1.Kind !=4)
  (some 0)
  ((idx t1.Kids 0).bind fun x2=>
   (adjointref3_Power fu x2).bind fun (r3:Int)=>
   (adjointref3_Power fu (⟨t1.Kind,t1.Name,t1.Number,t1.Shaped,t1.Shape,t1.Lists,t1.Kids⟩:STree)).bind fun (r4:Int)=>
   cond (r3==r4)
    ((idx t1.Kids 0).bind fun x5=>
    (self x5).bind fun (r6:Int)=>
    some (wrap .i64 (r6+1)))
    (some 1))
def adjointref3_Chain:Nat→STree→Option Int
 | 0=>fun _=>none
 | fu+1=>adjointref3_Chain_b (adjointref3_Chain fu) (fu+1)
def adjointref3_longest_l1 (self:STree→Option Int) (fu:Nat) (t1:STree):Int×Int→Option ((Int×Int)⊕Int):=fun (n3,v4)=>
 cond (decide (v4<(t1.Kids.length:Int)))
  ((idx t1.Kids v4).bind fun x5=>
   (self (⟨x5.Kind,x5.Name,x5.Number,x5.Shaped,x5.Shape,x5.Lists,x5.Kids⟩:STree)).bind fun (r6:Int)=>
   (cond (decide (r6>n3))
     (some r6)
     (some n3)).bind fun (n7:Int)=>
   some (.inl (n7,wrap .i64 (v4+1))))
  (some (.inr n3))
def adjointref3_longest_b (self:STree→Option Int) (fu:Nat) (t1:STree):Option Int:=
 (adjointref3_Chain fu (⟨t1.Kind,t1.Name,t1.Number,t1.Shaped,t1.Shape,t1.Lists,t1.Kids⟩:STree)).bind fun (r2:Int)=>
 (loopF (adjointref3_longest_l1 self fu t1) fu (r2,0)).bind fun (n8:Int)=>
 some n8
def adjointref3_longest:Nat→STree→Option Int
 | 0=>fun _=>none
 | fu+1=>adjointref3_longest_b (adjointref3_longest fu) (fu+1)
def adjointref3_Print_l1 (fu:Nat) (x7:SFunc):ByteArray×Int×ByteArray×Int→Option ((ByteArray×Int×ByteArray×Int)⊕(Ex (ByteArray×Int×ByteArray) ((ByteArray×Int×ByteArray×Bool×Int)⊕(Ex (ByteArray×Int×ByteArray×Bool) (ByteArray×Int))))):=fun (v11,v12,s13,v14)=>
 cond (decide (v14<(x7.Given.length:Int)))
  ((idx x7.Given v14).bind fun x15=>
   ((adjointref3_IsName fu x15.Name).bind fun (r16:Bool)=>
    cond (!r16) (some true) ((adjointref3_writable fu x15.Dims).bind fun (r17:Bool)=>
    some (!r17))).bind fun (v18:Bool)=>
   cond v18
    (some (.inr (.ret (.inr (.ret ((ByteArray.mk #[]),7))))))
    ((cond (decide (v14>0))
      ((chk (((s13.size+(ByteArray.mk #[44,32]).size:Nat):Int)≤9223372036854775807)).bind fun _=>
       some (s13++(ByteArray.mk #[44,32])))
      (some s13)).bind fun (s19:ByteArray)=>
    (chk (((s19.size+x15.Name.size:Nat):Int)≤9223372036854775807)).bind fun _=>
    (chk ((((s19++x15.Name).size+(ByteArray.mk #[58,32]).size:Nat):Int)≤9223372036854775807)).bind fun _=>
    (adjointref3_shapeText fu x15.Dims).bind fun (r20:ByteArray)=>
    (chk (((((s19++x15.Name)++(ByteArray.mk #[58,32])).size+r20.size:Nat):Int)≤9223372036854775807)).bind fun _=>
    some (.inl (v11,v12,(((s19++x15.Name)++(ByteArray.mk #[58,32]))++r20),wrap .i64 (v14+1)))))
  (some (.inr (.brk (v11,v12,s13))))
def adjointref3_Print_l2 (fu:Nat) (p1:List SFunc):ByteArray×Int×ByteArray×Bool×Int→Option ((ByteArray×Int×ByteArray×Bool×Int)⊕(Ex (ByteArray×Int×ByteArray×Bool) (ByteArray×Int))):=fun (v2,v3,s4,much5,v6)=>
 cond (decide (v6<(p1.length:Int)))
  ((idx p1 v6).bind fun x7=>
   ((adjointref3_IsName fu x7.Name).bind fun (r8:Bool)=>
    cond (!r8) (some true) ((adjointref3_Right fu (⟨x7.Body.Kind,x7.Body.Name,x7.Body.Number,x7.Body.Shaped,x7.Body.Shape,x7.Body.Lists,x7.Body.Kids⟩:STree)).bind fun (r9:Bool)=>
    some (!r9))).bind fun (v10:Bool)=>
   cond v10
    (some (.inr (.ret ((ByteArray.mk #[]),7))))
    ((chk (((s4.size+(ByteArray.mk #[102,110,32]).size:Nat):Int)≤9223372036854775807)).bind fun _=>
    (chk ((((s4++(ByteArray.mk #[102,110,32])).size+x7.Name.size:Nat):Int)≤9223372036854775807)).bind fun _=>
    (chk (((((s4++(ByteArray.mk #[102,110,32]))++x7.Name).size+(ByteArray.mk #[40]).size:Nat):Int)≤9223372036854775807)).bind fun _=>
    bindE (fun r=>r) (loopF (adjointref3_Print_l1 fu x7) fu (v2,v3,(((s4++(ByteArray.mk #[102,110,32]))++x7.Name)++(ByteArray.mk #[40])),0):Option (Ex (ByteArray×Int×ByteArray) ((ByteArray×Int×ByteArray×Bool×Int)⊕(Ex (ByteArray×Int×ByteArray×Bool) (ByteArray×Int))))) fun ((v21,v22,s23):ByteArray×Int×ByteArray)=>
    (chk (((s23.size+(ByteArray.mk #[41,32,61,32]).size:Nat):Int)≤9223372036854775807)).bind fun _=>
    (adjointref3_Text fu (⟨x7.Body.Kind,x7.Body.Name,x7.Body.Number,x7.Body.Shaped,x7.Body.Shape,x7.Body.Lists,x7.Body.Kids⟩:STree)).bind fun (r24:ByteArray)=>
    (chk ((((s23++(ByteArray.mk #[41,32,61,32])).size+r24.size:Nat):Int)≤9223372036854775807)).bind fun _=>
    (chk (((((s23++(ByteArray.mk #[41,32,61,32]))++r24).size+(ByteArray.mk #[59,10]).size:Nat):Int)≤9223372036854775807)).bind fun _=>
    (cond much5 (some true) ((adjointref3_Levels fu (⟨x7.Body.Kind,x7.Body.Name,x7.Body.Number,x7.Body.Shaped,x7.Body.Shape,x7.Body.Lists,x7.Body.Kids⟩:STree)).bind fun (r25:Int)=>
     cond (decide (r25>64)) (some true) ((adjointref3_longest fu (⟨x7.Body.Kind,x7.Body.Name,x7.Body.Number,x7.Body.Shaped,x7.Body.Shape,x7.Body.Lists,x7.Body.Kids⟩:STree)).bind fun (r26:Int)=>
     some (decide (r26>64))))).bind fun (much27:Bool)=>
    some (.inl (v21,v22,(((s23++(ByteArray.mk #[41,32,61,32]))++r24)++(ByteArray.mk #[59,10])),much27,wrap .i64 (v6+1)))))
  (some (.inr (.brk (v2,v3,s4,much5))))
def adjointref3_Print (fu:Nat) (p1:List SFunc):Option (ByteArray×Int):=
 bindE (fun r=>r) (loopF (adjointref3_Print_l2 fu p1) fu ((ByteArray.mk #[]),0,(ByteArray.mk #[]),false,0):Option (Ex (ByteArray×Int×ByteArray×Bool) (ByteArray×Int))) fun ((v28,v29,s30,much31):ByteArray×Int×ByteArray×Bool)=>
 (cond much31 (some true) (some (decide ((s30.size:Int)>65536)))).bind fun (v32:Bool)=>
 cond v32
  (some ((ByteArray.mk #[]),5))
  (some (s30,0))
def adjointlaw3_TextPrints (fu:Nat) (p1:List SFunc):Option Bool:=
 (text_Print fu p1).bind fun ((r2,r3):ByteArray×Int)=>
 (adjointref3_Print fu p1).bind fun ((r4,r5):ByteArray×Int)=>
 (cond (r2.toList==r4.toList) (some (r3==r5)) (some false)).bind fun (v6:Bool)=>
 some v6
end F
end
end Go.DN
