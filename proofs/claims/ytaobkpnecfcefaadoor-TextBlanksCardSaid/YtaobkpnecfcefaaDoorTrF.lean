/-
  The functions, as Lean functions over data.
-/
import Derived.Test.YtaobkpnecfcefaaDoorTrS
set_option maxRecDepth 20000
set_option linter.unusedVariables false
set_option linter.unusedSimpArgs false
namespace Go.DN
open Go.AM
noncomputable section
open Go.IntKind (wrap)
open Int (toNat)
namespace F
def text_lexer_blanks_1 (fu:Nat) (c1:Int):Option Bool:=
 some (c1 !=10)
def text_lexer_while_l1 (fu:Nat):ByteArray×Int→Option ((ByteArray×Int)⊕(ByteArray×Int)):=fun (m3,m4)=>
 (cond (decide (m4<(m3.size:Int))) ((bidx m3 m4).bind fun c5=>
  (text_lexer_blanks_1 fu ((c5.toNat:Nat):Int)).bind fun (r6:Bool)=>
  some r6) (some false)).bind fun (v7:Bool)=>
 cond v7
  (some (.inl (m3,wrap .i64 (m4+1))))
  (some (.inr (m3,m4)))
def text_lexer_while (fu:Nat) (m1:ByteArray) (m2:Int):Option (ByteArray×ByteArray×Int):=
 (loopF (text_lexer_while_l1 fu) fu (m1,m2)).bind fun ((m8,m9):ByteArray×Int)=>
 (chk ((0:Int)≤m2∧m2≤m9∧m9≤(m8.size:Int))).bind fun _=>
 some (m8.extract m2.toNat m9.toNat,m8,m9)
def text_lexer_blanks_l1 (fu:Nat):ByteArray×Int→Option ((ByteArray×Int)⊕(Ex (ByteArray×Int) (ByteArray×Int))):=fun (m3,m4)=>
 cond (decide (m4<(m3.size:Int)))
  ((bidx m3 m4).bind fun c5=>
   (cond (((c5.toNat:Nat):Int)==32)
     (some (((c5.toNat:Nat):Int)==32))
     ((cond (((c5.toNat:Nat):Int)==9)
       (some (((c5.toNat:Nat):Int)==9))
       ((cond (((c5.toNat:Nat):Int)==10)
          (some (((c5.toNat:Nat):Int)==10))
          (some (((c5.toNat:Nat):Int)==13))).bind fun (v6:Bool)=>
        some v6)).bind fun (v7:Bool)=>
     some v7)).bind fun (v8:Bool)=>
   bindE (fun r=>r) (cond v8
     (some (.brk (m3,wrap .i64 (m4+1))))
     (cond (((c5.toNat:Nat):Int)==35)
      ((text_lexer_while fu m3 m4).bind fun ((r9,r10,r11):ByteArray×ByteArray×Int)=>
       some (.brk (r10,r11)))
      (some (.ret (.inr (.ret (m3,m4)))))):Option (Ex (ByteArray×Int) ((ByteArray×Int)⊕(Ex (ByteArray×Int) (ByteArray×Int))))) fun ((m12,m13):ByteArray×Int)=>
   some (.inl (m12,m13)))
  (some (.inr (.brk (m3,m4))))
def text_lexer_blanks (fu:Nat) (m1:ByteArray) (m2:Int):Option (ByteArray×Int):=
 bindE (fun r=>r) (loopF (text_lexer_blanks_l1 fu) fu (m1,m2):Option (Ex (ByteArray×Int) (ByteArray×Int))) fun ((m14,m15):ByteArray×Int)=>
 some (m14,m15)
def text_letter (fu:Nat) (c1:Int):Option Bool:=
 (cond (decide (c1≥97)) (cond (decide (c1≤122)) (some true) (cond (decide (c1≥65)) (cond (decide (c1≤90)) (some true) (some (c1==95))) (some (c1==95)))) (cond (decide (c1≥65)) (cond (decide (c1≤90)) (some true) (some (c1==95))) (some (c1==95)))).bind fun (v2:Bool)=>
 some v2
def text_digit (fu:Nat) (c1:Int):Option Bool:=
 (cond (decide (c1≥48)) (some (decide (c1≤57))) (some false)).bind fun (v2:Bool)=>
 some v2
def text_lexer_next_1 (fu:Nat) (c1:Int):Option Bool:=
 ((text_letter fu c1).bind fun (r2:Bool)=>
  cond r2 (some true) ((text_digit fu c1).bind fun (r3:Bool)=>
  some r3)).bind fun (v4:Bool)=>
 some v4
def text_lexer_while_2_l1 (fu:Nat):ByteArray×Int→Option ((ByteArray×Int)⊕(ByteArray×Int)):=fun (m3,m4)=>
 (cond (decide (m4<(m3.size:Int))) ((bidx m3 m4).bind fun c5=>
  (text_lexer_next_1 fu ((c5.toNat:Nat):Int)).bind fun (r6:Bool)=>
  some r6) (some false)).bind fun (v7:Bool)=>
 cond v7
  (some (.inl (m3,wrap .i64 (m4+1))))
  (some (.inr (m3,m4)))
def text_lexer_while_2 (fu:Nat) (m1:ByteArray) (m2:Int):Option (ByteArray×ByteArray×Int):=
 (loopF (text_lexer_while_2_l1 fu) fu (m1,m2)).bind fun ((m8,m9):ByteArray×Int)=>
 (chk ((0:Int)≤m2∧m2≤m9∧m9≤(m8.size:Int))).bind fun _=>
 some (m8.extract m2.toNat m9.toNat,m8,m9)
def text_lexer_next_2 (fu:Nat) (c1:Int):Option Bool:=
 ((text_letter fu c1).bind fun (r2:Bool)=>
  cond r2 (some true) ((text_digit fu c1).bind fun (r3:Bool)=>
  some r3)).bind fun (v4:Bool)=>
 some v4
def text_lexer_while_3_l1 (fu:Nat):ByteArray×Int→Option ((ByteArray×Int)⊕(ByteArray×Int)):=fun (m3,m4)=>
 (cond (decide (m4<(m3.size:Int))) ((bidx m3 m4).bind fun c5=>
  (text_lexer_next_2 fu ((c5.toNat:Nat):Int)).bind fun (r6:Bool)=>
  some r6) (some false)).bind fun (v7:Bool)=>
 cond v7
  (some (.inl (m3,wrap .i64 (m4+1))))
  (some (.inr (m3,m4)))
def text_lexer_while_3 (fu:Nat) (m1:ByteArray) (m2:Int):Option (ByteArray×ByteArray×Int):=
 (loopF (text_lexer_while_3_l1 fu) fu (m1,m2)).bind fun ((m8,m9):ByteArray×Int)=>
 (chk ((0:Int)≤m2∧m2≤m9∧m9≤(m8.size:Int))).bind fun _=>
 some (m8.extract m2.toNat m9.toNat,m8,m9)
def text_lexer_next_l1 (fu:Nat) (m2:Int) (r9:ByteArray) (r10:ByteArray) (r11:Int):Int→Option (Int⊕(Ex Unit ((SToken×ByteArray×Int)⊕((Int×Int)×(ByteArray×Int))))):=fun v12=>
 cond (decide (v12<(r9.size:Int)))
  ((bidx r9 v12).bind fun c13=>
   (text_digit fu ((c13.toNat:Nat):Int)).bind fun (r14:Bool)=>
   cond (!r14)
    (some (.inr (.ret (.inr ((7,m2),(r10,r11))))))
    (some (.inl (wrap .i64 (v12+1)))))
  (some (.inr (.brk ())))
def text_lexer_next (fu:Nat) (m1:ByteArray) (m2:Int):Option ((SToken×ByteArray×Int)⊕((Int×Int)×(ByteArray×Int))):=
 (bidx m1 m2).bind fun c3=>
 (text_letter fu ((c3.toNat:Nat):Int)).bind fun (r4:Bool)=>
 cond r4
  ((text_lexer_while_2 fu m1 m2).bind fun ((r5,r6,r7):ByteArray×ByteArray×Int)=>
   some (.inl ((⟨r5,m2⟩:SToken),r6,r7)))
  ((text_digit fu ((c3.toNat:Nat):Int)).bind fun (r8:Bool)=>
   cond r8
    ((text_lexer_while_3 fu m1 m2).bind fun ((r9,r10,r11):ByteArray×ByteArray×Int)=>
    bindE (fun r=>r) (loopF (text_lexer_next_l1 fu m2 r9 r10 r11) fu 0:Option (Ex Unit ((SToken×ByteArray×Int)⊕((Int×Int)×(ByteArray×Int))))) fun (_:Unit)=>
    ((bidx r9 0).bind fun c15=>
     cond (((c15.toNat:Nat):Int)==48) (some (decide ((r9.size:Int)>1))) (some false)).bind fun (v16:Bool)=>
    cond v16
     (some (.inr ((7,m2),(r10,r11))))
     ((parseI r9 10 64).bind fun ((r17,r18):Int×Bool)=>
      cond r18
       (some (.inr ((4,m2),(r10,r11))))
       (some (.inl ((⟨r9,m2⟩:SToken),r10,r11)))))
    ((cond (((c3.toNat:Nat):Int)==40)
      (some (((c3.toNat:Nat):Int)==40))
      ((cond (((c3.toNat:Nat):Int)==41)
         (some (((c3.toNat:Nat):Int)==41))
         ((cond (((c3.toNat:Nat):Int)==91)
           (some (((c3.toNat:Nat):Int)==91))
           ((cond (((c3.toNat:Nat):Int)==93)
              (some (((c3.toNat:Nat):Int)==93))
              ((cond (((c3.toNat:Nat):Int)==123)
                (some (((c3.toNat:Nat):Int)==123))
                ((cond (((c3.toNat:Nat):Int)==125)
                   (some (((c3.toNat:Nat):Int)==125))
                   ((cond (((c3.toNat:Nat):Int)==44)
                     (some (((c3.toNat:Nat):Int)==44))
                     ((cond (((c3.toNat:Nat):Int)==58)
                        (some (((c3.toNat:Nat):Int)==58))
                        ((cond (((c3.toNat:Nat):Int)==61)
                          (some (((c3.toNat:Nat):Int)==61))
                          ((cond (((c3.toNat:Nat):Int)==43)
                             (some (((c3.toNat:Nat):Int)==43))
                             ((cond (((c3.toNat:Nat):Int)==45)
                               (some (((c3.toNat:Nat):Int)==45))
                               ((cond (((c3.toNat:Nat):Int)==42)
                                  (some (((c3.toNat:Nat):Int)==42))
                                  (some (((c3.toNat:Nat):Int)==59))).bind fun (v19:Bool)=>
                                some v19)).bind fun (v20:Bool)=>
                             some v20)).bind fun (v21:Bool)=>
                           some v21)).bind fun (v22:Bool)=>
                        some v22)).bind fun (v23:Bool)=>
                      some v23)).bind fun (v24:Bool)=>
                   some v24)).bind fun (v25:Bool)=>
                 some v25)).bind fun (v26:Bool)=>
              some v26)).bind fun (v27:Bool)=>
            some v27)).bind fun (v28:Bool)=>
         some v28)).bind fun (v29:Bool)=>
       some v29)).bind fun (v30:Bool)=>
    cond v30
     ((chk ((0:Int)≤m2∧m2≤(wrap .i64 (m2+1))∧(wrap .i64 (m2+1))≤(m1.size:Int))).bind fun _=>
      some (.inl ((⟨m1.extract m2.toNat (wrap .i64 (m2+1)).toNat,m2⟩:SToken),m1,wrap .i64 (m2+1))))
     (some (.inr ((7,m2),(m1,m2))))))
def text_Tokens_1 (fu:Nat) (m1:Int) (m2:Int) (m3:List SToken):Option (Int×Int×(List SToken)):=
 (cond (m1 !=0)
   (some ([]:List SToken))
   (some m3)).bind fun (m4:List SToken)=>
 some (m1,m2,m4)
def text_Tokens_l1 (fu:Nat) (s1:ByteArray):ByteArray×Int×(List SToken)→Option ((ByteArray×Int×(List SToken))⊕(Ex (ByteArray×Int×(List SToken)) (((List SToken)×SFault)⊕((Int×Int)×Unit)))):=fun (m4,m5,m6)=>
 cond (decide (m5<(s1.size:Int)))
  (amb (bindP (text_lexer_next fu m4 m5)
    (fun ((r7,r8,r9):SToken×ByteArray×Int)=>
     (chk (m6.length+[r7].length≤maxLen∧(m6.length+[r7].length)*24≤140737488355328)).bind fun _=>
     (text_lexer_blanks fu r8 r9).bind fun ((r10,r11):ByteArray×Int)=>
     some (.inl (r10,r11,m6++[r7])))
    (fun ((e12,e13),(r14,r15))=>
     ((text_Tokens_1 fu e12 e13 m6).bind fun ((r16,r17,r18):Int×Int×(List SToken))=>
      some (.inl (r18,(⟨r16,r17⟩:SFault)))).bind fun r=>some (.inr (.ret r)))) (bindP (text_lexer_next fu m4 m5)
    (fun ((r7,r8,r9):SToken×ByteArray×Int)=>
     amb2 ((chk (m6.length+[r7].length≤maxLen∧(m6.length+[r7].length)*24≤140737488355328)).bind fun _=>
     (text_lexer_blanks fu r8 r9).bind fun ((r10,r11):ByteArray×Int)=>
     some (.inl (r10,r11,m6++[r7]))))
    (fun ((e12,e13),(r14,r15))=>
     ((text_Tokens_1 fu e12 e13 m6).bind fun ((r16,r17,r18):Int×Int×(List SToken))=>
      some (.inl (r18,(⟨r16,r17⟩:SFault)))).bind fun r=>some (.inr (.ret r)))))
  (some (.inr (.brk (m4,m5,m6))))
def text_Tokens_p (fu:Nat) (s1:ByteArray):Option (((List SToken)×SFault)⊕((Int×Int)×Unit)):=
 cond (decide ((s1.size:Int)>65536))
  (some (.inl (([]:List SToken),(⟨5,0⟩:SFault))))
  ((text_lexer_blanks fu s1 0).bind fun ((r2,r3):ByteArray×Int)=>
   bindE (fun r=>r) (loopF (text_Tokens_l1 fu s1) fu (r2,r3,([]:List SToken)):Option (Ex (ByteArray×Int×(List SToken)) (((List SToken)×SFault)⊕((Int×Int)×Unit)))) fun ((m19,m20,m21):ByteArray×Int×(List SToken))=>
   (amb (amb2 (some (0,0))) (some (0,0)):Option (Int×Int)).bind fun ((m22,m23):Int×Int)=>
   (text_Tokens_1 fu m22 m23 m21).bind fun ((r24,r25,r26):Int×Int×(List SToken))=>
   some (.inl (r26,(⟨r24,r25⟩:SFault))))
def text_Tokens (fu:Nat) (s1:ByteArray):Option ((List SToken)×SFault):=unP (text_Tokens_p fu s1)
def text_reader_peek (fu:Nat) (r1:Sreader):Option (ByteArray):=
 cond ((r1.list.length:Int)==0)
  (some (ByteArray.mk #[]))
  ((idx r1.list 0).bind fun x2=>
   some x2.Text)
def text_reader_is (fu:Nat) (t1:ByteArray) (m2:List SToken) (m3:Int) (m4:Int):Option (Bool×(List SToken)×Int×Int):=
 (text_reader_peek fu (⟨m2,m3,m4⟩:Sreader)).bind fun (r5:ByteArray)=>
 cond (!(r5.toList==t1.toList))
  (some (false,m2,m3,m4))
  ((chk ((0:Int)≤1∧1≤(m2.length:Int))).bind fun _=>
   some (true,lpart m2 1 (m2.length:Int),m3,m4))
def text_reader_at (fu:Nat) (r1:Sreader):Option Int:=
 cond ((r1.list.length:Int)==0)
  (some r1.end_)
  ((idx r1.list 0).bind fun x2=>
   some x2.At)
def text_reader_must (fu:Nat) (t1:ByteArray) (m2:List SToken) (m3:Int) (m4:Int):Option (((List SToken)×Int×Int)⊕((Int×Int)×((List SToken)×Int×Int))):=
 (text_reader_is fu t1 m2 m3 m4).bind fun ((r5,r6,r7,r8):Bool×(List SToken)×Int×Int)=>
 cond (!r5)
  ((text_reader_at fu (⟨r6,r7,r8⟩:Sreader)).bind fun (r9:Int)=>
   some (.inr ((7,r9),(r6,r7,r8))))
  (some (.inl (r6,r7,r8)))
def text_keyword (fu:Nat) (s1:ByteArray):Option Bool:=
 (cond (s1.toList==(ByteArray.mk #[102,110]).toList)
   (some (s1.toList==(ByteArray.mk #[102,110]).toList))
   ((cond (s1.toList==(ByteArray.mk #[108,101,116]).toList)
      (some (s1.toList==(ByteArray.mk #[108,101,116]).toList))
      ((cond (s1.toList==(ByteArray.mk #[105,110]).toList)
        (some (s1.toList==(ByteArray.mk #[105,110]).toList))
        ((cond (s1.toList==(ByteArray.mk #[114,101,112,101,97,116]).toList)
           (some (s1.toList==(ByteArray.mk #[114,101,112,101,97,116]).toList))
           (some (s1.toList==(ByteArray.mk #[119,105,116,104]).toList))).bind fun (v2:Bool)=>
         some v2)).bind fun (v3:Bool)=>
      some v3)).bind fun (v4:Bool)=>
    some v4)).bind fun (v5:Bool)=>
 cond v5
  (some true)
  (some false)
def text_plainName_l1 (fu:Nat) (s1:ByteArray):Bool×Int→Option ((Bool×Int)⊕(Ex Unit Bool)):=fun (v6,v7)=>
 cond (decide (v7<(s1.size:Int)))
  (((bidx s1 v7).bind fun c8=>
    (text_letter fu ((c8.toNat:Nat):Int)).bind fun (r9:Bool)=>
    cond (!r9) ((bidx s1 v7).bind fun c10=>
    (text_digit fu ((c10.toNat:Nat):Int)).bind fun (r11:Bool)=>
    some (!r11)) (some false)).bind fun (v12:Bool)=>
   cond v12
    (some (.inr (.ret false)))
    (some (.inl (v6,wrap .i64 (v7+1)))))
  (some (.inr (.brk ())))
def text_plainName (fu:Nat) (s1:ByteArray):Option Bool:=
 (cond (s1.toList==(ByteArray.mk #[]).toList) (some true) ((bidx s1 0).bind fun c2=>
  (text_letter fu ((c2.toNat:Nat):Int)).bind fun (r3:Bool)=>
  cond (!r3) (some true) ((text_keyword fu s1).bind fun (r4:Bool)=>
  some r4))).bind fun (v5:Bool)=>
 cond v5
  (some false)
  (bindE (fun r=>r) (loopF (text_plainName_l1 fu s1) fu (false,0):Option (Ex Unit Bool)) fun (_:Unit)=>
   some true)
def text_reader_take (fu:Nat) (m1:List SToken) (m2:Int) (m3:Int):Option ((ByteArray×(List SToken)×Int×Int)⊕((Int×Int)×((List SToken)×Int×Int))):=
 (text_reader_peek fu (⟨m1,m2,m3⟩:Sreader)).bind fun (r4:ByteArray)=>
 cond (r4.toList==(ByteArray.mk #[]).toList)
  (some (.inr ((7,m2),(m1,m2,m3))))
  ((chk ((0:Int)≤1∧1≤(m1.length:Int))).bind fun _=>
   some (.inl (r4,lpart m1 1 (m1.length:Int),m2,m3)))
def text_reader_name (fu:Nat) (m1:List SToken) (m2:Int) (m3:Int):Option ((ByteArray×(List SToken)×Int×Int)⊕((Int×Int)×((List SToken)×Int×Int))):=
 (text_reader_peek fu (⟨m1,m2,m3⟩:Sreader)).bind fun (r4:ByteArray)=>
 (text_plainName fu r4).bind fun (r5:Bool)=>
 cond (!r5)
  ((text_reader_at fu (⟨m1,m2,m3⟩:Sreader)).bind fun (r6:Int)=>
   some (.inr ((7,r6),(m1,m2,m3))))
  (bindP (text_reader_take fu m1 m2 m3)
    (fun ((r7,r8,r9,r10):ByteArray×(List SToken)×Int×Int)=>
     some (.inl (r7,r8,r9,r10)))
    (fun ((e11,e12),(r13,r14,r15))=>
     some (.inr ((e11,e12),(r13,r14,r15)))))
def text_reader_isNumber (fu:Nat) (r1:Sreader):Option Bool:=
 ((text_reader_peek fu r1).bind fun (r2:ByteArray)=>
  cond (!(r2.toList==(ByteArray.mk #[]).toList)) ((text_reader_peek fu r1).bind fun (r3:ByteArray)=>
  (bidx r3 0).bind fun c4=>
  (text_digit fu ((c4.toNat:Nat):Int)).bind fun (r5:Bool)=>
  some r5) (some false)).bind fun (v6:Bool)=>
 some v6
def text_reader_number (fu:Nat) (m1:List SToken) (m2:Int) (m3:Int):Option ((Int×(List SToken)×Int×Int)⊕((Int×Int)×((List SToken)×Int×Int))):=
 (text_reader_isNumber fu (⟨m1,m2,m3⟩:Sreader)).bind fun (r4:Bool)=>
 cond (!r4)
  ((text_reader_at fu (⟨m1,m2,m3⟩:Sreader)).bind fun (r5:Int)=>
   some (.inr ((7,r5),(m1,m2,m3))))
  (bindP (text_reader_take fu m1 m2 m3)
    (fun ((r6,r7,r8,r9):ByteArray×(List SToken)×Int×Int)=>
     (parseI r6 10 64).bind fun ((r10,r11):Int×Bool)=>
     some (.inl (r10,r7,r8,r9)))
    (fun ((e12,e13),(r14,r15,r16))=>
     some (.inr ((e12,e13),(r14,r15,r16)))))
def text_reader_shape_l1 (fu:Nat):(List SToken)×Int×Int×(List SDim)→Option (((List SToken)×Int×Int×(List SDim))⊕(Ex ((List SToken)×Int×Int×(List SDim)) (((List SDim)×(List SToken)×Int×Int)⊕((Int×Int)×((List SToken)×Int×Int))))):=fun (m7,m8,m9,m10)=>
 (text_reader_is fu (ByteArray.mk #[93]) m7 m8 m9).bind fun ((r11,r12,r13,r14):Bool×(List SToken)×Int×Int)=>
 cond (!r11)
  ((text_reader_isNumber fu (⟨r12,r13,r14⟩:Sreader)).bind fun (r15:Bool)=>
   bindE (fun r=>r) (cond r15
     (bindP (text_reader_number fu r12 r13 r14)
      (fun ((r16,r17,r18,r19):Int×(List SToken)×Int×Int)=>
       (chk (m10.length+[(⟨(ByteArray.mk #[]),r16⟩:SDim)].length≤maxLen∧(m10.length+[(⟨(ByteArray.mk #[]),r16⟩:SDim)].length)*24≤140737488355328)).bind fun _=>
       some (.brk (r17,r18,r19,m10++[(⟨(ByteArray.mk #[]),r16⟩:SDim)])))
      (fun ((e20,e21),(r22,r23,r24))=>
       some (.ret (.inr (.ret (.inr ((e20,e21),(r22,r23,r24))))))))
     (bindP (text_reader_name fu r12 r13 r14)
      (fun ((r25,r26,r27,r28):ByteArray×(List SToken)×Int×Int)=>
       (chk (m10.length+[(⟨r25,0⟩:SDim)].length≤maxLen∧(m10.length+[(⟨r25,0⟩:SDim)].length)*24≤140737488355328)).bind fun _=>
       some (.brk (r26,r27,r28,m10++[(⟨r25,0⟩:SDim)])))
      (fun ((e29,e30),(r31,r32,r33))=>
       some (.ret (.inr (.ret (.inr ((e29,e30),(r31,r32,r33)))))))):Option (Ex ((List SToken)×Int×Int×(List SDim)) (((List SToken)×Int×Int×(List SDim))⊕(Ex ((List SToken)×Int×Int×(List SDim)) (((List SDim)×(List SToken)×Int×Int)⊕((Int×Int)×((List SToken)×Int×Int))))))) fun ((m34,m35,m36,m37):(List SToken)×Int×Int×(List SDim))=>
   some (.inl (m34,m35,m36,m37)))
  (some (.inr (.brk (r12,r13,r14,m10))))
def text_reader_shape (fu:Nat) (m1:List SToken) (m2:Int) (m3:Int):Option (((List SDim)×(List SToken)×Int×Int)⊕((Int×Int)×((List SToken)×Int×Int))):=
 bindP (text_reader_must fu (ByteArray.mk #[91]) m1 m2 m3)
  (fun ((r4,r5,r6):(List SToken)×Int×Int)=>
   bindE (fun r=>r) (loopF (text_reader_shape_l1 fu) fu (r4,r5,r6,([]:List SDim)):Option (Ex ((List SToken)×Int×Int×(List SDim)) (((List SDim)×(List SToken)×Int×Int)⊕((Int×Int)×((List SToken)×Int×Int))))) fun ((m38,m39,m40,m41):(List SToken)×Int×Int×(List SDim))=>
   some (.inl (m41,m38,m39,m40)))
  (fun ((e42,e43),(r44,r45,r46))=>
   some (.inr ((e42,e43),(r44,r45,r46))))
def text_reader_expr_1 (fu:Nat) (m1:List SToken) (m2:Int) (m3:Int):Option ((List SToken)×Int×Int):=
 some (m1,m2,wrap .i64 (m3-1))
def text_reader_numbers_l1 (fu:Nat):(List SToken)×Int×Int×(List Int)→Option (((List SToken)×Int×Int×(List Int))⊕(Ex ((List SToken)×Int×Int×(List Int)) (((List Int)×(List SToken)×Int×Int)⊕((Int×Int)×((List SToken)×Int×Int))))):=fun (m7,m8,m9,m10)=>
 (text_reader_is fu (ByteArray.mk #[125]) m7 m8 m9).bind fun ((r11,r12,r13,r14):Bool×(List SToken)×Int×Int)=>
 cond (!r11)
  (bindP (text_reader_number fu r12 r13 r14)
    (fun ((r15,r16,r17,r18):Int×(List SToken)×Int×Int)=>
     (chk (m10.length+[r15].length≤maxLen∧(m10.length+[r15].length)*8≤140737488355328)).bind fun _=>
     some (.inl (r16,r17,r18,m10++[r15])))
    (fun ((e19,e20),(r21,r22,r23))=>
     some (.inr (.ret (.inr ((e19,e20),(r21,r22,r23)))))))
  (some (.inr (.brk (r12,r13,r14,m10))))
def text_reader_numbers (fu:Nat) (m1:List SToken) (m2:Int) (m3:Int):Option (((List Int)×(List SToken)×Int×Int)⊕((Int×Int)×((List SToken)×Int×Int))):=
 bindP (text_reader_must fu (ByteArray.mk #[123]) m1 m2 m3)
  (fun ((r4,r5,r6):(List SToken)×Int×Int)=>
   bindE (fun r=>r) (loopF (text_reader_numbers_l1 fu) fu (r4,r5,r6,([]:List Int)):Option (Ex ((List SToken)×Int×Int×(List Int)) (((List Int)×(List SToken)×Int×Int)⊕((Int×Int)×((List SToken)×Int×Int))))) fun ((m24,m25,m26,m27):(List SToken)×Int×Int×(List Int))=>
   some (.inl (m27,m24,m25,m26)))
  (fun ((e28,e29),(r30,r31,r32))=>
   some (.inr ((e28,e29),(r30,r31,r32))))
def text_reader_factor_l1 (self:(List SToken)→Int→Int→Option ((STree×(List SToken)×Int×Int)⊕((Int×Int)×((List SToken)×Int×Int)))) (fu:Nat):(List SToken)×Int×Int×(List (List Int))×Int×ByteArray×Int×Bool×(List SDim)→Option (((List SToken)×Int×Int×(List (List Int))×Int×ByteArray×Int×Bool×(List SDim))⊕(Ex ((List SToken)×Int×Int×(List (List Int))×Int×ByteArray×Int×Bool×(List SDim)) ((STree×(List SToken)×Int×Int)⊕((Int×Int)×((List SToken)×Int×Int))))):=fun (m61,m62,m63,m64,m65,m66,m67,m68,m69)=>
 (text_reader_peek fu (⟨m61,m62,m63⟩:Sreader)).bind fun (r70:ByteArray)=>
 cond (r70.toList==(ByteArray.mk #[123]).toList)
  (amb (bindP (text_reader_numbers fu m61 m62 m63)
    (fun ((r71,r72,r73,r74):(List Int)×(List SToken)×Int×Int)=>
     (chk (m64.length+[r71].length≤maxLen∧(m64.length+[r71].length)*24≤140737488355328)).bind fun _=>
     some (.inl (r72,r73,r74,m64++[r71],m65,m66,m67,m68,m69)))
    (fun ((e75,e76),(r77,r78,r79))=>
     some (.inr (.ret (.inr ((e75,e76),(r77,r78,r79))))))) (bindP (text_reader_numbers fu m61 m62 m63)
    (fun ((r71,r72,r73,r74):(List Int)×(List SToken)×Int×Int)=>
     amb2 ((chk (m64.length+[r71].length≤maxLen∧(m64.length+[r71].length)*24≤140737488355328)).bind fun _=>
     some (.inl (r72,r73,r74,m64++[r71],m65,m66,m67,m68,m69))))
    (fun ((e75,e76),(r77,r78,r79))=>
     some (.inr (.ret (.inr ((e75,e76),(r77,r78,r79))))))))
  (some (.inr (.brk (m61,m62,m63,m64,m65,m66,m67,m68,m69))))
def text_reader_factor_l2 (self:(List SToken)→Int→Int→Option ((STree×(List SToken)×Int×Int)⊕((Int×Int)×((List SToken)×Int×Int)))) (fu:Nat):(List SToken)×Int×Int×(List STree)×Int×ByteArray×Int×Bool×(List SDim)→Option (((List SToken)×Int×Int×(List STree)×Int×ByteArray×Int×Bool×(List SDim))⊕(Ex ((List SToken)×Int×Int×(List STree)×Int×ByteArray×Int×Bool×(List SDim)) ((STree×(List SToken)×Int×Int)⊕((Int×Int)×((List SToken)×Int×Int))))):=fun (m92,m93,m94,m95,m96,m97,m98,m99,m100)=>
 (text_reader_peek fu (⟨m92,m93,m94⟩:Sreader)).bind fun (r101:ByteArray)=>
 cond (!(r101.toList==(ByteArray.mk #[41]).toList))
  (bindE (fun r=>r) (cond (decide ((m95.length:Int)>0))
     (bindP (text_reader_must fu (ByteArray.mk #[44]) m92 m93 m94)
      (fun ((r102,r103,r104):(List SToken)×Int×Int)=>
       some (.brk (r102,r103,r104)))
      (fun ((e105,e106),(r107,r108,r109))=>
       some (.ret (.inr (.ret (.inr ((e105,e106),(r107,r108,r109))))))))
     (some (.brk (m92,m93,m94))):Option (Ex ((List SToken)×Int×Int) (((List SToken)×Int×Int×(List STree)×Int×ByteArray×Int×Bool×(List SDim))⊕(Ex ((List SToken)×Int×Int×(List STree)×Int×ByteArray×Int×Bool×(List SDim)) ((STree×(List SToken)×Int×Int)⊕((Int×Int)×((List SToken)×Int×Int))))))) fun ((m110,m111,m112):(List SToken)×Int×Int)=>
   amb (bindP (self m110 m111 m112)
    (fun ((r113,r114,r115,r116):STree×(List SToken)×Int×Int)=>
     (chk (m95.length+[r113].length≤maxLen∧(m95.length+[r113].length)*112≤140737488355328)).bind fun _=>
     some (.inl (r114,r115,r116,m95++[r113],m96,m97,m98,m99,m100)))
    (fun ((e117,e118),(r119,r120,r121))=>
     some (.inr (.ret (.inr ((e117,e118),(r119,r120,r121))))))) (bindP (self m110 m111 m112)
    (fun ((r113,r114,r115,r116):STree×(List SToken)×Int×Int)=>
     amb2 ((chk (m95.length+[r113].length≤maxLen∧(m95.length+[r113].length)*112≤140737488355328)).bind fun _=>
     some (.inl (r114,r115,r116,m95++[r113],m96,m97,m98,m99,m100))))
    (fun ((e117,e118),(r119,r120,r121))=>
     some (.inr (.ret (.inr ((e117,e118),(r119,r120,r121))))))))
  (some (.inr (.brk (m92,m93,m94,m95,m96,m97,m98,m99,m100))))
def text_reader_factor (self:(List SToken)→Int→Int→Option ((STree×(List SToken)×Int×Int)⊕((Int×Int)×((List SToken)×Int×Int)))) (fu:Nat) (m1:List SToken) (m2:Int) (m3:Int):Option ((STree×(List SToken)×Int×Int)⊕((Int×Int)×((List SToken)×Int×Int))):=
 (text_reader_isNumber fu (⟨m1,m2,m3⟩:Sreader)).bind fun (r4:Bool)=>
 cond r4
  (bindP (text_reader_number fu m1 m2 m3)
    (fun ((r5,r6,r7,r8):Int×(List SToken)×Int×Int)=>
     some (.inl ((⟨1,(ByteArray.mk #[]),r5,false,([]:List SDim),([]:List (List Int)),([]:List STree)⟩:STree),r6,r7,r8)))
    (fun ((e9,e10),(r11,r12,r13))=>
     some (.inr ((e9,e10),(r11,r12,r13)))))
  ((text_reader_is fu (ByteArray.mk #[40]) m1 m2 m3).bind fun ((r14,r15,r16,r17):Bool×(List SToken)×Int×Int)=>
   cond r14
    (bindP (self r15 r16 r17)
     (fun ((r18,r19,r20,r21):STree×(List SToken)×Int×Int)=>
      bindP (text_reader_must fu (ByteArray.mk #[41]) r19 r20 r21)
       (fun ((r22,r23,r24):(List SToken)×Int×Int)=>
        some (.inl ((⟨r18.Kind,r18.Name,r18.Number,r18.Shaped,r18.Shape,r18.Lists,r18.Kids⟩:STree),r22,r23,r24)))
       (fun ((e25,e26),(r27,r28,r29))=>
        some (.inr ((e25,e26),(r27,r28,r29)))))
     (fun ((e30,e31),(r32,r33,r34))=>
      some (.inr ((e30,e31),(r32,r33,r34)))))
    (bindP (text_reader_name fu r15 r16 r17)
     (fun ((r35,r36,r37,r38):ByteArray×(List SToken)×Int×Int)=>
      (text_reader_peek fu (⟨r36,r37,r38⟩:Sreader)).bind fun (r39:ByteArray)=>
      (cond (!(r39.toList==(ByteArray.mk #[91]).toList)) (cond (!(r39.toList==(ByteArray.mk #[123]).toList)) (some (!(r39.toList==(ByteArray.mk #[40]).toList))) (some false)) (some false)).bind fun (v40:Bool)=>
      cond v40
       (some (.inl ((⟨2,r35,0,false,([]:List SDim),([]:List (List Int)),([]:List STree)⟩:STree),r36,r37,r38)))
       ((text_reader_peek fu (⟨r36,r37,r38⟩:Sreader)).bind fun (r41:ByteArray)=>
        bindE (fun r=>r) (cond (r41.toList==(ByteArray.mk #[91]).toList)
          (bindP (text_reader_shape fu r36 r37 r38)
           (fun ((r42,r43,r44,r45):(List SDim)×(List SToken)×Int×Int)=>
            some (.brk (3,r35,0,true,r42,r43,r44,r45,([]:List (List Int)),([]:List STree))))
           (fun ((e46,e47),(r48,r49,r50))=>
            some (.ret (.inr ((e46,e47),(r48,r49,r50))))))
          (some (.brk (3,r35,0,false,([]:List SDim),r36,r37,r38,([]:List (List Int)),([]:List STree)))):Option (Ex (Int×ByteArray×Int×Bool×(List SDim)×(List SToken)×Int×Int×(List (List Int))×(List STree)) ((STree×(List SToken)×Int×Int)⊕((Int×Int)×((List SToken)×Int×Int))))) fun ((m51,m52,m53,m54,m55,m56,m57,m58,m59,m60):Int×ByteArray×Int×Bool×(List SDim)×(List SToken)×Int×Int×(List (List Int))×(List STree))=>
        bindE (fun r=>r) (loopF (text_reader_factor_l1 self fu) fu (m56,m57,m58,m59,m51,m52,m53,m54,m55):Option (Ex ((List SToken)×Int×Int×(List (List Int))×Int×ByteArray×Int×Bool×(List SDim)) ((STree×(List SToken)×Int×Int)⊕((Int×Int)×((List SToken)×Int×Int))))) fun ((m80,m81,m82,m83,m84,m85,m86,m87,m88):(List SToken)×Int×Int×(List (List Int))×Int×ByteArray×Int×Bool×(List SDim))=>
        bindP (text_reader_must fu (ByteArray.mk #[40]) m80 m81 m82)
         (fun ((r89,r90,r91):(List SToken)×Int×Int)=>
          bindE (fun r=>r) (loopF (text_reader_factor_l2 self fu) fu (r89,r90,r91,m60,m84,m85,m86,m87,m88):Option (Ex ((List SToken)×Int×Int×(List STree)×Int×ByteArray×Int×Bool×(List SDim)) ((STree×(List SToken)×Int×Int)⊕((Int×Int)×((List SToken)×Int×Int))))) fun ((m122,m123,m124,m125,m126,m127,m128,m129,m130):(List SToken)×Int×Int×(List STree)×Int×ByteArray×Int×Bool×(List SDim))=>
          bindP (text_reader_must fu (ByteArray.mk #[41]) m122 m123 m124)
           (fun ((r131,r132,r133):(List SToken)×Int×Int)=>
            some (.inl ((⟨m126,m127,m128,m129,m130,m83,m125⟩:STree),r131,r132,r133)))
           (fun ((e134,e135),(r136,r137,r138))=>
            some (.inr ((e134,e135),(r136,r137,r138)))))
         (fun ((e139,e140),(r141,r142,r143))=>
          some (.inr ((e139,e140),(r141,r142,r143))))))
     (fun ((e144,e145),(r146,r147,r148))=>
      some (.inr ((e144,e145),(r146,r147,r148))))))
def text_reader_chain_4_l1 (self:(List SToken)→Int→Int→Option ((STree×(List SToken)×Int×Int)⊕((Int×Int)×((List SToken)×Int×Int)))) (fu:Nat) (m4:List ByteArray):ByteArray×Int×(List SToken)×Int×Int→Option ((ByteArray×Int×(List SToken)×Int×Int)⊕(ByteArray×(List SToken)×Int×Int)):=fun (sign28,v29,m30,m31,m32)=>
 cond (decide (v29<(m4.length:Int)))
  ((idx m4 v29).bind fun x33=>
   (cond (sign28.toList==(ByteArray.mk #[]).toList) ((text_reader_is fu x33 m30 m31 m32).bind fun ((r34,r35,r36,r37):Bool×(List SToken)×Int×Int)=>
    some (r34,r35,r36,r37)) (some (false,m30,m31,m32))).bind fun ((v38,m39,m40,m41):Bool×(List SToken)×Int×Int)=>
   (cond v38
     (some x33)
     (some sign28)).bind fun (sign42:ByteArray)=>
   some (.inl (sign42,wrap .i64 (v29+1),m39,m40,m41)))
  (some (.inr (sign28,m30,m31,m32)))
def text_reader_chain_4_l2 (self:(List SToken)→Int→Int→Option ((STree×(List SToken)×Int×Int)⊕((Int×Int)×((List SToken)×Int×Int)))) (fu:Nat) (m4:List ByteArray):Int×(List SToken)×Int×Int×Int×ByteArray×Int×Bool×(List SDim)×(List (List Int))×(List STree)×Int×ByteArray×Int×Bool×(List SDim)×(List (List Int))×(List STree)→Option ((Int×(List SToken)×Int×Int×Int×ByteArray×Int×Bool×(List SDim)×(List (List Int))×(List STree)×Int×ByteArray×Int×Bool×(List SDim)×(List (List Int))×(List STree))⊕(Ex Unit ((STree×(List SToken)×Int×Int×(List ByteArray))⊕((Int×Int)×((List SToken)×Int×Int×(List ByteArray)))))):=fun (n9,m10,m11,m12,m13,m14,m15,m16,m17,m18,m19,m20,m21,m22,m23,m24,m25,m26)=>
 (text_reader_at fu (⟨m10,m11,m12⟩:Sreader)).bind fun (r27:Int)=>
 (loopF (text_reader_chain_4_l1 self fu m4) fu ((ByteArray.mk #[]),0,m10,m11,m12)).bind fun ((sign43,m44,m45,m46):ByteArray×(List SToken)×Int×Int)=>
 cond (sign43.toList==(ByteArray.mk #[]).toList)
  (some (.inr (.ret (.inl ((⟨m20,m21,m22,m23,m24,m25,m26⟩:STree),m44,m45,m46,m4)))))
  (cond (decide (n9>64))
    (some (.inr (.ret (.inr ((5,r27),(m44,m45,m46,m4))))))
    (amb2 (bindP (text_reader_factor self fu m44 m45 m46)
     (fun ((r47,r48,r49,r50):STree×(List SToken)×Int×Int)=>
      some (.inl (wrap .i64 (n9+1),r48,r49,r50,m13,m14,m15,m16,m17,m18,m19,4,sign43,0,false,([]:List SDim),([]:List (List Int)),[(⟨m20,m21,m22,m23,m24,m25,m26⟩:STree),r47])))
     (fun ((e51,e52),(r53,r54,r55))=>
      some (.inr (.ret (.inr ((e51,e52),(r53,r54,r55,m4)))))))))
def text_reader_chain_4 (self:(List SToken)→Int→Int→Option ((STree×(List SToken)×Int×Int)⊕((Int×Int)×((List SToken)×Int×Int)))) (fu:Nat) (m1:List SToken) (m2:Int) (m3:Int) (m4:List ByteArray):Option ((STree×(List SToken)×Int×Int×(List ByteArray))⊕((Int×Int)×((List SToken)×Int×Int×(List ByteArray)))):=
 bindP (text_reader_factor self fu m1 m2 m3)
  (fun ((r5,r6,r7,r8):STree×(List SToken)×Int×Int)=>
   bindE (fun r=>r) (loopF (text_reader_chain_4_l2 self fu m4) fu (1,r6,r7,r8,0,(ByteArray.mk #[]),0,false,([]:List SDim),([]:List (List Int)),([]:List STree),r5.Kind,r5.Name,r5.Number,r5.Shaped,r5.Shape,r5.Lists,r5.Kids):Option (Ex Unit ((STree×(List SToken)×Int×Int×(List ByteArray))⊕((Int×Int)×((List SToken)×Int×Int×(List ByteArray)))))) fun (_:Unit)=>
   none)
  (fun ((e56,e57),(r58,r59,r60))=>
   some (.inr ((e56,e57),(r58,r59,r60,m4))))
def text_reader_expr_2 (self:(List SToken)→Int→Int→Option ((STree×(List SToken)×Int×Int)⊕((Int×Int)×((List SToken)×Int×Int)))) (fu:Nat) (m1:List SToken) (m2:Int) (m3:Int):Option ((STree×(List SToken)×Int×Int)⊕((Int×Int)×((List SToken)×Int×Int))):=
 bindP (text_reader_chain_4 self fu m1 m2 m3 [(ByteArray.mk #[42])])
  (fun ((r4,r5,r6,r7,r8):STree×(List SToken)×Int×Int×(List ByteArray))=>
   bif Nat.beq (List.length r8) (List.length [(ByteArray.mk #[42])]) then
   some (.inl ((⟨r4.Kind,r4.Name,r4.Number,r4.Shaped,r4.Shape,r4.Lists,r4.Kids⟩:STree),r5,r6,r7))
   else none)
  (fun ((e9,e10),(r11,r12,r13,r14))=>
   bif Nat.beq (List.length r14) (List.length [(ByteArray.mk #[42])]) then
   some (.inr ((e9,e10),(r11,r12,r13)))
   else none)
def text_reader_chain_6_l1 (self:(List SToken)→Int→Int→Option ((STree×(List SToken)×Int×Int)⊕((Int×Int)×((List SToken)×Int×Int)))) (fu:Nat) (m4:List ByteArray):ByteArray×Int×(List SToken)×Int×Int→Option ((ByteArray×Int×(List SToken)×Int×Int)⊕(ByteArray×(List SToken)×Int×Int)):=fun (sign28,v29,m30,m31,m32)=>
 cond (decide (v29<(m4.length:Int)))
  ((idx m4 v29).bind fun x33=>
   (cond (sign28.toList==(ByteArray.mk #[]).toList) ((text_reader_is fu x33 m30 m31 m32).bind fun ((r34,r35,r36,r37):Bool×(List SToken)×Int×Int)=>
    some (r34,r35,r36,r37)) (some (false,m30,m31,m32))).bind fun ((v38,m39,m40,m41):Bool×(List SToken)×Int×Int)=>
   (cond v38
     (some x33)
     (some sign28)).bind fun (sign42:ByteArray)=>
   some (.inl (sign42,wrap .i64 (v29+1),m39,m40,m41)))
  (some (.inr (sign28,m30,m31,m32)))
def text_reader_chain_6_l2 (self:(List SToken)→Int→Int→Option ((STree×(List SToken)×Int×Int)⊕((Int×Int)×((List SToken)×Int×Int)))) (fu:Nat) (m4:List ByteArray):Int×(List SToken)×Int×Int×Int×ByteArray×Int×Bool×(List SDim)×(List (List Int))×(List STree)×Int×ByteArray×Int×Bool×(List SDim)×(List (List Int))×(List STree)→Option ((Int×(List SToken)×Int×Int×Int×ByteArray×Int×Bool×(List SDim)×(List (List Int))×(List STree)×Int×ByteArray×Int×Bool×(List SDim)×(List (List Int))×(List STree))⊕(Ex Unit ((STree×(List SToken)×Int×Int×(List ByteArray))⊕((Int×Int)×((List SToken)×Int×Int×(List ByteArray)))))):=fun (n9,m10,m11,m12,m13,m14,m15,m16,m17,m18,m19,m20,m21,m22,m23,m24,m25,m26)=>
 (text_reader_at fu (⟨m10,m11,m12⟩:Sreader)).bind fun (r27:Int)=>
 (loopF (text_reader_chain_6_l1 self fu m4) fu ((ByteArray.mk #[]),0,m10,m11,m12)).bind fun ((sign43,m44,m45,m46):ByteArray×(List SToken)×Int×Int)=>
 cond (sign43.toList==(ByteArray.mk #[]).toList)
  (some (.inr (.ret (.inl ((⟨m20,m21,m22,m23,m24,m25,m26⟩:STree),m44,m45,m46,m4)))))
  (cond (decide (n9>64))
    (some (.inr (.ret (.inr ((5,r27),(m44,m45,m46,m4))))))
    (amb2 (bindP (text_reader_expr_2 self fu m44 m45 m46)
     (fun ((r47,r48,r49,r50):STree×(List SToken)×Int×Int)=>
      some (.inl (wrap .i64 (n9+1),r48,r49,r50,m13,m14,m15,m16,m17,m18,m19,4,sign43,0,false,([]:List SDim),([]:List (List Int)),[(⟨m20,m21,m22,m23,m24,m25,m26⟩:STree),r47])))
     (fun ((e51,e52),(r53,r54,r55))=>
      some (.inr (.ret (.inr ((e51,e52),(r53,r54,r55,m4)))))))))
def text_reader_chain_6 (self:(List SToken)→Int→Int→Option ((STree×(List SToken)×Int×Int)⊕((Int×Int)×((List SToken)×Int×Int)))) (fu:Nat) (m1:List SToken) (m2:Int) (m3:Int) (m4:List ByteArray):Option ((STree×(List SToken)×Int×Int×(List ByteArray))⊕((Int×Int)×((List SToken)×Int×Int×(List ByteArray)))):=
 bindP (text_reader_expr_2 self fu m1 m2 m3)
  (fun ((r5,r6,r7,r8):STree×(List SToken)×Int×Int)=>
   bindE (fun r=>r) (loopF (text_reader_chain_6_l2 self fu m4) fu (1,r6,r7,r8,0,(ByteArray.mk #[]),0,false,([]:List SDim),([]:List (List Int)),([]:List STree),r5.Kind,r5.Name,r5.Number,r5.Shaped,r5.Shape,r5.Lists,r5.Kids):Option (Ex Unit ((STree×(List SToken)×Int×Int×(List ByteArray))⊕((Int×Int)×((List SToken)×Int×Int×(List ByteArray)))))) fun (_:Unit)=>
   none)
  (fun ((e56,e57),(r58,r59,r60))=>
   some (.inr ((e56,e57),(r58,r59,r60,m4))))
def text_reader_expr_b (self:(List SToken)→Int→Int→Option ((STree×(List SToken)×Int×Int)⊕((Int×Int)×((List SToken)×Int×Int)))) (fu:Nat) (m1:List SToken) (m2:Int) (m3:Int):Option ((STree×(List SToken)×Int×Int)⊕((Int×Int)×((List SToken)×Int×Int))):=
 cond (decide ((wrap .i64 (m3+1))>64))
  ((text_reader_at fu (⟨m1,m2,wrap .i64 (m3+1)⟩:Sreader)).bind fun (r4:Int)=>
   (text_reader_expr_1 fu m1 m2 (wrap .i64 (m3+1))).bind fun ((r5,r6,r7):(List SToken)×Int×Int)=>
   some (.inr ((5,r4),(r5,r6,r7))))
  ((text_reader_is fu (ByteArray.mk #[108,101,116]) m1 m2 (wrap .i64 (m3+1))).bind fun ((r8,r9,r10,r11):Bool×(List SToken)×Int×Int)=>
   cond r8
    (bindP (text_reader_name fu r9 r10 r11)
     (fun ((r12,r13,r14,r15):ByteArray×(List SToken)×Int×Int)=>
      bindP (text_reader_must fu (ByteArray.mk #[61]) r13 r14 r15)
       (fun ((r16,r17,r18):(List SToken)×Int×Int)=>
        amb (bindP (self r16 r17 r18)
         (fun ((r19,r20,r21,r22):STree×(List SToken)×Int×Int)=>
          (chk (([]:List STree).length+[r19].length≤maxLen∧(([]:List STree).length+[r19].length)*112≤140737488355328)).bind fun _=>
          bindP (text_reader_must fu (ByteArray.mk #[105,110]) r20 r21 r22)
           (fun ((r23,r24,r25):(List SToken)×Int×Int)=>
            amb (bindP (self r23 r24 r25)
             (fun ((r26,r27,r28,r29):STree×(List SToken)×Int×Int)=>
              (chk ((([]:List STree)++[r19]).length+[r26].length≤maxLen∧((([]:List STree)++[r19]).length+[r26].length)*112≤140737488355328)).bind fun _=>
              (text_reader_expr_1 fu r27 r28 r29).bind fun ((r30,r31,r32):(List SToken)×Int×Int)=>
              some (.inl ((⟨5,r12,0,false,([]:List SDim),([]:List (List Int)),(([]:List STree)++[r19])++[r26]⟩:STree),r30,r31,r32)))
             (fun ((e33,e34),(r35,r36,r37))=>
              (text_reader_expr_1 fu r35 r36 r37).bind fun ((r38,r39,r40):(List SToken)×Int×Int)=>
              some (.inr ((e33,e34),(r38,r39,r40))))) (bindP (self r23 r24 r25)
             (fun ((r26,r27,r28,r29):STree×(List SToken)×Int×Int)=>
              amb2 ((chk ((([]:List STree)++[r19]).length+[r26].length≤maxLen∧((([]:List STree)++[r19]).length+[r26].length)*112≤140737488355328)).bind fun _=>
              (text_reader_expr_1 fu r27 r28 r29).bind fun ((r30,r31,r32):(List SToken)×Int×Int)=>
              some (.inl ((⟨5,r12,0,false,([]:List SDim),([]:List (List Int)),(([]:List STree)++[r19])++[r26]⟩:STree),r30,r31,r32))))
             (fun ((e33,e34),(r35,r36,r37))=>
              (text_reader_expr_1 fu r35 r36 r37).bind fun ((r38,r39,r40):(List SToken)×Int×Int)=>
              some (.inr ((e33,e34),(r38,r39,r40))))))
           (fun ((e41,e42),(r43,r44,r45))=>
            (text_reader_expr_1 fu r43 r44 r45).bind fun ((r46,r47,r48):(List SToken)×Int×Int)=>
            some (.inr ((e41,e42),(r46,r47,r48)))))
         (fun ((e49,e50),(r51,r52,r53))=>
          (text_reader_expr_1 fu r51 r52 r53).bind fun ((r54,r55,r56):(List SToken)×Int×Int)=>
          some (.inr ((e49,e50),(r54,r55,r56))))) (bindP (self r16 r17 r18)
         (fun ((r19,r20,r21,r22):STree×(List SToken)×Int×Int)=>
          amb2 ((chk (([]:List STree).length+[r19].length≤maxLen∧(([]:List STree).length+[r19].length)*112≤140737488355328)).bind fun _=>
          bindP (text_reader_must fu (ByteArray.mk #[105,110]) r20 r21 r22)
           (fun ((r23,r24,r25):(List SToken)×Int×Int)=>
            amb (bindP (self r23 r24 r25)
             (fun ((r26,r27,r28,r29):STree×(List SToken)×Int×Int)=>
              (chk ((([]:List STree)++[r19]).length+[r26].length≤maxLen∧((([]:List STree)++[r19]).length+[r26].length)*112≤140737488355328)).bind fun _=>
              (text_reader_expr_1 fu r27 r28 r29).bind fun ((r30,r31,r32):(List SToken)×Int×Int)=>
              some (.inl ((⟨5,r12,0,false,([]:List SDim),([]:List (List Int)),(([]:List STree)++[r19])++[r26]⟩:STree),r30,r31,r32)))
             (fun ((e33,e34),(r35,r36,r37))=>
              (text_reader_expr_1 fu r35 r36 r37).bind fun ((r38,r39,r40):(List SToken)×Int×Int)=>
              some (.inr ((e33,e34),(r38,r39,r40))))) (bindP (self r23 r24 r25)
             (fun ((r26,r27,r28,r29):STree×(List SToken)×Int×Int)=>
              amb2 ((chk ((([]:List STree)++[r19]).length+[r26].length≤maxLen∧((([]:List STree)++[r19]).length+[r26].length)*112≤140737488355328)).bind fun _=>
              (text_reader_expr_1 fu r27 r28 r29).bind fun ((r30,r31,r32):(List SToken)×Int×Int)=>
              some (.inl ((⟨5,r12,0,false,([]:List SDim),([]:List (List Int)),(([]:List STree)++[r19])++[r26]⟩:STree),r30,r31,r32))))
             (fun ((e33,e34),(r35,r36,r37))=>
              (text_reader_expr_1 fu r35 r36 r37).bind fun ((r38,r39,r40):(List SToken)×Int×Int)=>
              some (.inr ((e33,e34),(r38,r39,r40))))))
           (fun ((e41,e42),(r43,r44,r45))=>
            (text_reader_expr_1 fu r43 r44 r45).bind fun ((r46,r47,r48):(List SToken)×Int×Int)=>
            some (.inr ((e41,e42),(r46,r47,r48))))))
         (fun ((e49,e50),(r51,r52,r53))=>
          (text_reader_expr_1 fu r51 r52 r53).bind fun ((r54,r55,r56):(List SToken)×Int×Int)=>
          some (.inr ((e49,e50),(r54,r55,r56))))))
       (fun ((e57,e58),(r59,r60,r61))=>
        (text_reader_expr_1 fu r59 r60 r61).bind fun ((r62,r63,r64):(List SToken)×Int×Int)=>
        some (.inr ((e57,e58),(r62,r63,r64)))))
     (fun ((e65,e66),(r67,r68,r69))=>
      (text_reader_expr_1 fu r67 r68 r69).bind fun ((r70,r71,r72):(List SToken)×Int×Int)=>
      some (.inr ((e65,e66),(r70,r71,r72)))))
    ((text_reader_is fu (ByteArray.mk #[114,101,112,101,97,116]) r9 r10 r11).bind fun ((r73,r74,r75,r76):Bool×(List SToken)×Int×Int)=>
    cond r73
     (bindP (text_reader_number fu r74 r75 r76)
       (fun ((r77,r78,r79,r80):Int×(List SToken)×Int×Int)=>
        bindP (text_reader_name fu r78 r79 r80)
         (fun ((r81,r82,r83,r84):ByteArray×(List SToken)×Int×Int)=>
          bindP (text_reader_must fu (ByteArray.mk #[61]) r82 r83 r84)
           (fun ((r85,r86,r87):(List SToken)×Int×Int)=>
            amb (bindP (self r85 r86 r87)
             (fun ((r88,r89,r90,r91):STree×(List SToken)×Int×Int)=>
              (chk (([]:List STree).length+[r88].length≤maxLen∧(([]:List STree).length+[r88].length)*112≤140737488355328)).bind fun _=>
              bindP (text_reader_must fu (ByteArray.mk #[119,105,116,104]) r89 r90 r91)
               (fun ((r92,r93,r94):(List SToken)×Int×Int)=>
                amb (bindP (self r92 r93 r94)
                 (fun ((r95,r96,r97,r98):STree×(List SToken)×Int×Int)=>
                  (chk ((([]:List STree)++[r88]).length+[r95].length≤maxLen∧((([]:List STree)++[r88]).length+[r95].length)*112≤140737488355328)).bind fun _=>
                  (text_reader_expr_1 fu r96 r97 r98).bind fun ((r99,r100,r101):(List SToken)×Int×Int)=>
                  some (.inl ((⟨6,r81,r77,false,([]:List SDim),([]:List (List Int)),(([]:List STree)++[r88])++[r95]⟩:STree),r99,r100,r101)))
                 (fun ((e102,e103),(r104,r105,r106))=>
                  (text_reader_expr_1 fu r104 r105 r106).bind fun ((r107,r108,r109):(List SToken)×Int×Int)=>
                  some (.inr ((e102,e103),(r107,r108,r109))))) (bindP (self r92 r93 r94)
                 (fun ((r95,r96,r97,r98):STree×(List SToken)×Int×Int)=>
                  amb2 ((chk ((([]:List STree)++[r88]).length+[r95].length≤maxLen∧((([]:List STree)++[r88]).length+[r95].length)*112≤140737488355328)).bind fun _=>
                  (text_reader_expr_1 fu r96 r97 r98).bind fun ((r99,r100,r101):(List SToken)×Int×Int)=>
                  some (.inl ((⟨6,r81,r77,false,([]:List SDim),([]:List (List Int)),(([]:List STree)++[r88])++[r95]⟩:STree),r99,r100,r101))))
                 (fun ((e102,e103),(r104,r105,r106))=>
                  (text_reader_expr_1 fu r104 r105 r106).bind fun ((r107,r108,r109):(List SToken)×Int×Int)=>
                  some (.inr ((e102,e103),(r107,r108,r109))))))
               (fun ((e110,e111),(r112,r113,r114))=>
                (text_reader_expr_1 fu r112 r113 r114).bind fun ((r115,r116,r117):(List SToken)×Int×Int)=>
                some (.inr ((e110,e111),(r115,r116,r117)))))
             (fun ((e118,e119),(r120,r121,r122))=>
              (text_reader_expr_1 fu r120 r121 r122).bind fun ((r123,r124,r125):(List SToken)×Int×Int)=>
              some (.inr ((e118,e119),(r123,r124,r125))))) (bindP (self r85 r86 r87)
             (fun ((r88,r89,r90,r91):STree×(List SToken)×Int×Int)=>
              amb2 ((chk (([]:List STree).length+[r88].length≤maxLen∧(([]:List STree).length+[r88].length)*112≤140737488355328)).bind fun _=>
              bindP (text_reader_must fu (ByteArray.mk #[119,105,116,104]) r89 r90 r91)
               (fun ((r92,r93,r94):(List SToken)×Int×Int)=>
                amb (bindP (self r92 r93 r94)
                 (fun ((r95,r96,r97,r98):STree×(List SToken)×Int×Int)=>
                  (chk ((([]:List STree)++[r88]).length+[r95].length≤maxLen∧((([]:List STree)++[r88]).length+[r95].length)*112≤140737488355328)).bind fun _=>
                  (text_reader_expr_1 fu r96 r97 r98).bind fun ((r99,r100,r101):(List SToken)×Int×Int)=>
                  some (.inl ((⟨6,r81,r77,false,([]:List SDim),([]:List (List Int)),(([]:List STree)++[r88])++[r95]⟩:STree),r99,r100,r101)))
                 (fun ((e102,e103),(r104,r105,r106))=>
                  (text_reader_expr_1 fu r104 r105 r106).bind fun ((r107,r108,r109):(List SToken)×Int×Int)=>
                  some (.inr ((e102,e103),(r107,r108,r109))))) (bindP (self r92 r93 r94)
                 (fun ((r95,r96,r97,r98):STree×(List SToken)×Int×Int)=>
                  amb2 ((chk ((([]:List STree)++[r88]).length+[r95].length≤maxLen∧((([]:List STree)++[r88]).length+[r95].length)*112≤140737488355328)).bind fun _=>
                  (text_reader_expr_1 fu r96 r97 r98).bind fun ((r99,r100,r101):(List SToken)×Int×Int)=>
                  some (.inl ((⟨6,r81,r77,false,([]:List SDim),([]:List (List Int)),(([]:List STree)++[r88])++[r95]⟩:STree),r99,r100,r101))))
                 (fun ((e102,e103),(r104,r105,r106))=>
                  (text_reader_expr_1 fu r104 r105 r106).bind fun ((r107,r108,r109):(List SToken)×Int×Int)=>
                  some (.inr ((e102,e103),(r107,r108,r109))))))
               (fun ((e110,e111),(r112,r113,r114))=>
                (text_reader_expr_1 fu r112 r113 r114).bind fun ((r115,r116,r117):(List SToken)×Int×Int)=>
                some (.inr ((e110,e111),(r115,r116,r117))))))
             (fun ((e118,e119),(r120,r121,r122))=>
              (text_reader_expr_1 fu r120 r121 r122).bind fun ((r123,r124,r125):(List SToken)×Int×Int)=>
              some (.inr ((e118,e119),(r123,r124,r125))))))
           (fun ((e126,e127),(r128,r129,r130))=>
            (text_reader_expr_1 fu r128 r129 r130).bind fun ((r131,r132,r133):(List SToken)×Int×Int)=>
            some (.inr ((e126,e127),(r131,r132,r133)))))
         (fun ((e134,e135),(r136,r137,r138))=>
          (text_reader_expr_1 fu r136 r137 r138).bind fun ((r139,r140,r141):(List SToken)×Int×Int)=>
          some (.inr ((e134,e135),(r139,r140,r141)))))
       (fun ((e142,e143),(r144,r145,r146))=>
        (text_reader_expr_1 fu r144 r145 r146).bind fun ((r147,r148,r149):(List SToken)×Int×Int)=>
        some (.inr ((e142,e143),(r147,r148,r149)))))
     (bindP (text_reader_chain_6 self fu r74 r75 r76 [(ByteArray.mk #[43]),(ByteArray.mk #[45])])
       (fun ((r150,r151,r152,r153,r154):STree×(List SToken)×Int×Int×(List ByteArray))=>
        bif Nat.beq (List.length r154) (List.length [(ByteArray.mk #[43]),(ByteArray.mk #[45])]) then
        (text_reader_expr_1 fu r151 r152 r153).bind fun ((r155,r156,r157):(List SToken)×Int×Int)=>
        some (.inl ((⟨r150.Kind,r150.Name,r150.Number,r150.Shaped,r150.Shape,r150.Lists,r150.Kids⟩:STree),r155,r156,r157))
        else none)
       (fun ((e158,e159),(r160,r161,r162,r163))=>
        bif Nat.beq (List.length r163) (List.length [(ByteArray.mk #[43]),(ByteArray.mk #[45])]) then
        (text_reader_expr_1 fu r160 r161 r162).bind fun ((r164,r165,r166):(List SToken)×Int×Int)=>
        some (.inr ((e158,e159),(r164,r165,r166)))
        else none))))
def text_reader_expr:Nat→(List SToken)→Int→Int→Option ((STree×(List SToken)×Int×Int)⊕((Int×Int)×((List SToken)×Int×Int)))
 | 0=>fun _ _ _=>none
 | fu+1=>text_reader_expr_b (text_reader_expr fu) (fu+1)
def text_reader_function_l1 (fu:Nat):(List SToken)×Int×Int×ByteArray×Int×ByteArray×Int×Bool×(List SDim)×(List (List Int))×(List STree)×(List SGiven)→Option (((List SToken)×Int×Int×ByteArray×Int×ByteArray×Int×Bool×(List SDim)×(List (List Int))×(List STree)×(List SGiven))⊕(Ex ((List SToken)×Int×Int×ByteArray×Int×ByteArray×Int×Bool×(List SDim)×(List (List Int))×(List STree)×(List SGiven)) ((SFunc×(List SToken)×Int×Int)⊕((Int×Int)×((List SToken)×Int×Int))))):=fun (m14,m15,m16,m17,m18,m19,m20,m21,m22,m23,m24,m25)=>
 (text_reader_peek fu (⟨m14,m15,m16⟩:Sreader)).bind fun (r26:ByteArray)=>
 cond (!(r26.toList==(ByteArray.mk #[41]).toList))
  (bindE (fun r=>r) (cond (decide ((m25.length:Int)>0))
     (bindP (text_reader_must fu (ByteArray.mk #[44]) m14 m15 m16)
      (fun ((r27,r28,r29):(List SToken)×Int×Int)=>
       some (.brk (r27,r28,r29)))
      (fun ((e30,e31),(r32,r33,r34))=>
       some (.ret (.inr (.ret (.inr ((e30,e31),(r32,r33,r34))))))))
     (some (.brk (m14,m15,m16))):Option (Ex ((List SToken)×Int×Int) (((List SToken)×Int×Int×ByteArray×Int×ByteArray×Int×Bool×(List SDim)×(List (List Int))×(List STree)×(List SGiven))⊕(Ex ((List SToken)×Int×Int×ByteArray×Int×ByteArray×Int×Bool×(List SDim)×(List (List Int))×(List STree)×(List SGiven)) ((SFunc×(List SToken)×Int×Int)⊕((Int×Int)×((List SToken)×Int×Int))))))) fun ((m35,m36,m37):(List SToken)×Int×Int)=>
   bindP (text_reader_name fu m35 m36 m37)
    (fun ((r38,r39,r40,r41):ByteArray×(List SToken)×Int×Int)=>
     bindP (text_reader_must fu (ByteArray.mk #[58]) r39 r40 r41)
      (fun ((r42,r43,r44):(List SToken)×Int×Int)=>
       bindP (text_reader_shape fu r42 r43 r44)
        (fun ((r45,r46,r47,r48):(List SDim)×(List SToken)×Int×Int)=>
         (chk (m25.length+[(⟨r38,r45⟩:SGiven)].length≤maxLen∧(m25.length+[(⟨r38,r45⟩:SGiven)].length)*40≤140737488355328)).bind fun _=>
         some (.inl (r46,r47,r48,m17,m18,m19,m20,m21,m22,m23,m24,m25++[(⟨r38,r45⟩:SGiven)])))
        (fun ((e49,e50),(r51,r52,r53))=>
         some (.inr (.ret (.inr ((e49,e50),(r51,r52,r53)))))))
      (fun ((e54,e55),(r56,r57,r58))=>
       some (.inr (.ret (.inr ((e54,e55),(r56,r57,r58)))))))
    (fun ((e59,e60),(r61,r62,r63))=>
     some (.inr (.ret (.inr ((e59,e60),(r61,r62,r63)))))))
  (some (.inr (.brk (m14,m15,m16,m17,m18,m19,m20,m21,m22,m23,m24,m25))))
def text_reader_function (fu:Nat) (m1:List SToken) (m2:Int) (m3:Int):Option ((SFunc×(List SToken)×Int×Int)⊕((Int×Int)×((List SToken)×Int×Int))):=
 bindP (text_reader_must fu (ByteArray.mk #[102,110]) m1 m2 m3)
  (fun ((r4,r5,r6):(List SToken)×Int×Int)=>
   bindP (text_reader_name fu r4 r5 r6)
    (fun ((r7,r8,r9,r10):ByteArray×(List SToken)×Int×Int)=>
     bindP (text_reader_must fu (ByteArray.mk #[40]) r8 r9 r10)
      (fun ((r11,r12,r13):(List SToken)×Int×Int)=>
       bindE (fun r=>r) (loopF (text_reader_function_l1 fu) fu (r11,r12,r13,r7,0,(ByteArray.mk #[]),0,false,([]:List SDim),([]:List (List Int)),([]:List STree),([]:List SGiven)):Option (Ex ((List SToken)×Int×Int×ByteArray×Int×ByteArray×Int×Bool×(List SDim)×(List (List Int))×(List STree)×(List SGiven)) ((SFunc×(List SToken)×Int×Int)⊕((Int×Int)×((List SToken)×Int×Int))))) fun ((m64,m65,m66,m67,m68,m69,m70,m71,m72,m73,m74,m75):(List SToken)×Int×Int×ByteArray×Int×ByteArray×Int×Bool×(List SDim)×(List (List Int))×(List STree)×(List SGiven))=>
       bindP (text_reader_must fu (ByteArray.mk #[41]) m64 m65 m66)
        (fun ((r76,r77,r78):(List SToken)×Int×Int)=>
         bindP (text_reader_must fu (ByteArray.mk #[61]) r76 r77 r78)
          (fun ((r79,r80,r81):(List SToken)×Int×Int)=>
           bindP (text_reader_expr fu r79 r80 r81)
            (fun ((r82,r83,r84,r85):STree×(List SToken)×Int×Int)=>
             bindP (text_reader_must fu (ByteArray.mk #[59]) r83 r84 r85)
              (fun ((r86,r87,r88):(List SToken)×Int×Int)=>
               some (.inl ((⟨m67,m75,(⟨r82.Kind,r82.Name,r82.Number,r82.Shaped,r82.Shape,r82.Lists,r82.Kids⟩:STree)⟩:SFunc),r86,r87,r88)))
              (fun ((e89,e90),(r91,r92,r93))=>
               some (.inr ((e89,e90),(r91,r92,r93)))))
            (fun ((e94,e95),(r96,r97,r98))=>
             some (.inr ((e94,e95),(r96,r97,r98)))))
          (fun ((e99,e100),(r101,r102,r103))=>
           some (.inr ((e99,e100),(r101,r102,r103)))))
        (fun ((e104,e105),(r106,r107,r108))=>
         some (.inr ((e104,e105),(r106,r107,r108)))))
      (fun ((e109,e110),(r111,r112,r113))=>
       some (.inr ((e109,e110),(r111,r112,r113)))))
    (fun ((e114,e115),(r116,r117,r118))=>
     some (.inr ((e114,e115),(r116,r117,r118)))))
  (fun ((e119,e120),(r121,r122,r123))=>
   some (.inr ((e119,e120),(r121,r122,r123))))
def text_Read_1 (fu:Nat) (m1:Int) (m2:Int) (m3:List SFunc):Option (Int×Int×(List SFunc)):=
 (cond (m1 !=0)
   (some ([]:List SFunc))
   (some m3)).bind fun (m4:List SFunc)=>
 some (m1,m2,m4)
def text_Read_l1 (fu:Nat):(List SToken)×Int×Int×(List SFunc)→Option (((List SToken)×Int×Int×(List SFunc))⊕(Ex ((List SToken)×Int×Int×(List SFunc)) (((List SFunc)×SFault)⊕((Int×Int)×Unit)))):=fun (m7,m8,m9,m10)=>
 cond (decide ((m7.length:Int)>0))
  (amb (bindP (text_reader_function fu m7 m8 m9)
    (fun ((r11,r12,r13,r14):SFunc×(List SToken)×Int×Int)=>
     (chk (m10.length+[r11].length≤maxLen∧(m10.length+[r11].length)*152≤140737488355328)).bind fun _=>
     some (.inl (r12,r13,r14,m10++[r11])))
    (fun ((e15,e16),(r17,r18,r19))=>
     ((text_Read_1 fu e15 e16 m10).bind fun ((r20,r21,r22):Int×Int×(List SFunc))=>
      some (.inl (r22,(⟨r20,r21⟩:SFault)))).bind fun r=>some (.inr (.ret r)))) (bindP (text_reader_function fu m7 m8 m9)
    (fun ((r11,r12,r13,r14):SFunc×(List SToken)×Int×Int)=>
     amb2 ((chk (m10.length+[r11].length≤maxLen∧(m10.length+[r11].length)*152≤140737488355328)).bind fun _=>
     some (.inl (r12,r13,r14,m10++[r11]))))
    (fun ((e15,e16),(r17,r18,r19))=>
     ((text_Read_1 fu e15 e16 m10).bind fun ((r20,r21,r22):Int×Int×(List SFunc))=>
      some (.inl (r22,(⟨r20,r21⟩:SFault)))).bind fun r=>some (.inr (.ret r)))))
  (some (.inr (.brk (m7,m8,m9,m10))))
def text_Read_p (fu:Nat) (s1:ByteArray):Option (((List SFunc)×SFault)⊕((Int×Int)×Unit)):=
 (text_Tokens fu s1).bind fun ((r2,r3):(List SToken)×SFault)=>
 cond (r3.Err !=0)
  ((amb2 (some (([]:List SFunc),r3.Err,r3.At))).bind fun ((m4,m5,m6):(List SFunc)×Int×Int)=>
   some (.inl (m4,(⟨m5,m6⟩:SFault))))
  (bindE (fun r=>r) (loopF (text_Read_l1 fu) fu (r2,(s1.size:Int),0,([]:List SFunc)):Option (Ex ((List SToken)×Int×Int×(List SFunc)) (((List SFunc)×SFault)⊕((Int×Int)×Unit)))) fun ((m23,m24,m25,m26):(List SToken)×Int×Int×(List SFunc))=>
   (amb (amb2 (some (r3.Err,r3.At))) (some (r3.Err,r3.At))).bind fun ((m27,m28):Int×Int)=>
   (text_Read_1 fu m27 m28 m26).bind fun ((r29,r30,r31):Int×Int×(List SFunc))=>
   some (.inl (r31,(⟨r29,r30⟩:SFault))))
def text_Read (fu:Nat) (s1:ByteArray):Option ((List SFunc)×SFault):=unP (text_Read_p fu s1)
def adjointref3_sameDims_l1 (fu:Nat) (a1:List SDim) (b2:List SDim):Bool×Int→Option ((Bool×Int)⊕(Ex Unit Bool)):=fun (v3,v4)=>
 cond (decide (v4<(a1.length:Int)))
  ((idx a1 v4).bind fun x5=>
   (idx b2 v4).bind fun x6=>
   cond (!(x5.Name==x6.Name&&(x5.Size==x6.Size&&true)))
    (some (.inr (.ret false)))
    (some (.inl (v3,wrap .i64 (v4+1)))))
  (some (.inr (.brk ())))
def adjointref3_sameDims (fu:Nat) (a1:List SDim) (b2:List SDim):Option Bool:=
 cond ((a1.length:Int) !=(b2.length:Int))
  (some false)
  (bindE (fun r=>r) (loopF (adjointref3_sameDims_l1 fu a1 b2) fu (false,0):Option (Ex Unit Bool)) fun (_:Unit)=>
   some true)
def adjointref3_sameLists_l1 (fu:Nat) (a1:List (List Int)) (b2:List (List Int)) (v4:Int) (x7:List Int):Bool×Int→Option ((Bool×Int)⊕(Ex Bool ((Bool×Int)⊕(Ex Unit Bool)))):=fun (v8,v9)=>
 cond (decide (v9<(x7.length:Int)))
  ((idx a1 v4).bind fun x10=>
   (idx x10 v9).bind fun x11=>
   (idx b2 v4).bind fun x12=>
   (idx x12 v9).bind fun x13=>
   cond (x11 !=x13)
    (some (.inr (.ret (.inr (.ret false)))))
    (some (.inl (v8,wrap .i64 (v9+1)))))
  (some (.inr (.brk v8)))
def adjointref3_sameLists_l2 (fu:Nat) (a1:List (List Int)) (b2:List (List Int)):Bool×Int→Option ((Bool×Int)⊕(Ex Unit Bool)):=fun (v3,v4)=>
 cond (decide (v4<(a1.length:Int)))
  ((idx a1 v4).bind fun x5=>
   (idx b2 v4).bind fun x6=>
   cond ((x5.length:Int) !=(x6.length:Int))
    (some (.inr (.ret false)))
    ((idx a1 v4).bind fun x7=>
    bindE (fun r=>r) (loopF (adjointref3_sameLists_l1 fu a1 b2 v4 x7) fu (v3,0):Option (Ex Bool ((Bool×Int)⊕(Ex Unit Bool)))) fun (v14:Bool)=>
    some (.inl (v14,wrap .i64 (v4+1)))))
  (some (.inr (.brk ())))
def adjointref3_sameLists (fu:Nat) (a1:List (List Int)) (b2:List (List Int)):Option Bool:=
 cond ((a1.length:Int) !=(b2.length:Int))
  (some false)
  (bindE (fun r=>r) (loopF (adjointref3_sameLists_l2 fu a1 b2) fu (false,0):Option (Ex Unit Bool)) fun (_:Unit)=>
   some true)
def adjointref3_SameTree_l1 (self:STree→STree→Option Bool) (fu:Nat) (a1:STree) (b2:STree):Bool×Int→Option ((Bool×Int)⊕(Ex Unit Bool)):=fun (v6,v7)=>
 cond (decide (v7<(a1.Kids.length:Int)))
  ((idx a1.Kids v7).bind fun x8=>
   (idx b2.Kids v7).bind fun x9=>
   (self x8 x9).bind fun (r10:Bool)=>
   cond (!r10)
    (some (.inr (.ret false)))
    (some (.inl (v6,wrap .i64 (v7+1)))))
  (some (.inr (.brk ())))
def adjointref3_SameTree_b (self:STree→STree→Option Bool) (fu:Nat) (a1:STree) (b2:STree):Option Bool:=
 (cond (a1.Kind !=b2.Kind) (some true) (cond (!(a1.Name.toList==b2.Name.toList)) (some true) (cond (a1.Number !=b2.Number) (some true) (cond (!(a1.Shaped==b2.Shaped)) (some true) ((adjointref3_sameDims fu a1.Shape b2.Shape).bind fun (r3:Bool)=>
  cond (!r3) (some true) ((adjointref3_sameLists fu a1.Lists b2.Lists).bind fun (r4:Bool)=>
  cond (!r4) (some true) (some ((a1.Kids.length:Int) !=(b2.Kids.length:Int))))))))).bind fun (v5:Bool)=>
 cond v5
  (some false)
  (bindE (fun r=>r) (loopF (adjointref3_SameTree_l1 self fu a1 b2) fu (false,0):Option (Ex Unit Bool)) fun (_:Unit)=>
   some true)
def adjointref3_SameTree:Nat→STree→STree→Option Bool
 | 0=>fun _ _=>none
 | fu+1=>adjointref3_SameTree_b (adjointref3_SameTree fu) (fu+1)
def adjointref3_SameProgram_l1 (fu:Nat) (a1:List SFunc) (b2:List SFunc) (v4:Int) (x13:SFunc):Bool×Int→Option ((Bool×Int)⊕(Ex Bool ((Bool×Int)⊕(Ex Unit Bool)))):=fun (v14,v15)=>
 cond (decide (v15<(x13.Given.length:Int)))
  (((idx a1 v4).bind fun x16=>
    (idx x16.Given v15).bind fun x17=>
    (idx b2 v4).bind fun x18=>
    (idx x18.Given v15).bind fun x19=>
    cond (!(x17.Name.toList==x19.Name.toList)) (some true) ((idx a1 v4).bind fun x20=>
    (idx x20.Given v15).bind fun x21=>
    (idx b2 v4).bind fun x22=>
    (idx x22.Given v15).bind fun x23=>
    (adjointref3_sameDims fu x21.Dims x23.Dims).bind fun (r24:Bool)=>
    some (!r24))).bind fun (v25:Bool)=>
   cond v25
    (some (.inr (.ret (.inr (.ret false)))))
    (some (.inl (v14,wrap .i64 (v15+1)))))
  (some (.inr (.brk v14)))
def adjointref3_SameProgram_l2 (fu:Nat) (a1:List SFunc) (b2:List SFunc):Bool×Int→Option ((Bool×Int)⊕(Ex Unit Bool)):=fun (v3,v4)=>
 cond (decide (v4<(a1.length:Int)))
  (((idx a1 v4).bind fun x5=>
    (idx b2 v4).bind fun x6=>
    cond (!(x5.Name.toList==x6.Name.toList)) (some true) ((idx a1 v4).bind fun x7=>
    (idx b2 v4).bind fun x8=>
    cond ((x7.Given.length:Int) !=(x8.Given.length:Int)) (some true) ((idx a1 v4).bind fun x9=>
    (idx b2 v4).bind fun x10=>
    (adjointref3_SameTree fu (⟨x9.Body.Kind,x9.Body.Name,x9.Body.Number,x9.Body.Shaped,x9.Body.Shape,x9.Body.Lists,x9.Body.Kids⟩:STree) (⟨x10.Body.Kind,x10.Body.Name,x10.Body.Number,x10.Body.Shaped,x10.Body.Shape,x10.Body.Lists,x10.Body.Kids⟩:STree)).bind fun (r11:Bool)=>
    some (!r11)))).bind fun (v12:Bool)=>
   cond v12
    (some (.inr (.ret false)))
    ((idx a1 v4).bind fun x13=>
    bindE (fun r=>r) (loopF (adjointref3_SameProgram_l1 fu a1 b2 v4 x13) fu (v3,0):Option (Ex Bool ((Bool×Int)⊕(Ex Unit Bool)))) fun (v26:Bool)=>
    some (.inl (v26,wrap .i64 (v4+1)))))
  (some (.inr (.brk ())))
def adjointref3_SameProgram (fu:Nat) (a1:List SFunc) (b2:List SFunc):Option Bool:=
 cond ((a1.length:Int) !=(b2.length:Int))
  (some false)
  (bindE (fun r=>r) (loopF (adjointref3_SameProgram_l2 fu a1 b2) fu (false,0):Option (Ex Unit Bool)) fun (_:Unit)=>
   some true)
def adjointlaw3_alive (fu:Nat):Option Bool:=
 (text_Tokens fu (ByteArray.mk #[97,32,98])).bind fun ((r1,r2):(List SToken)×SFault)=>
 (cond ((r1.length:Int)==2) (some (r2.Err==0)) (some false)).bind fun (v3:Bool)=>
 some v3
def adjointlaw3_TextBlanks_l1 (fu:Nat) (between2:List ByteArray) (r4:List SToken):ByteArray×Int→Option ((ByteArray×Int)⊕ByteArray):=fun (t7,v8)=>
 cond (decide (v8<(r4.length:Int)))
  ((idx r4 v8).bind fun x9=>
   (chk ((between2.length:Int)≠0)).bind fun _=>
   (idx between2 (Int.tmod v8 (between2.length:Int))).bind fun x10=>
   (cond (x10.toList==(ByteArray.mk #[108,105,110,101]).toList)
     (some (ByteArray.mk #[10]))
     ((cond (x10.toList==(ByteArray.mk #[114,101,109,97,114,107]).toList)
       (some (ByteArray.mk #[32,35,32,105,110,32,0,32,59,32,114,101,109,97,114,107,10]))
       ((cond (x10.toList==(ByteArray.mk #[116,97,98]).toList)
          (some (ByteArray.mk #[9,13,32,32]))
          (some (ByteArray.mk #[32]))).bind fun (b11:ByteArray)=>
        some b11)).bind fun (b12:ByteArray)=>
     some b12)).bind fun (b13:ByteArray)=>
   (chk (((t7.size+x9.Text.size:Nat):Int)≤9223372036854775807)).bind fun _=>
   (chk ((((t7++x9.Text).size+b13.size:Nat):Int)≤9223372036854775807)).bind fun _=>
   some (.inl (((t7++x9.Text)++b13),wrap .i64 (v8+1))))
  (some (.inr t7))
def adjointlaw3_TextBlanks (fu:Nat) (s1:ByteArray) (between2:List ByteArray):Option Bool:=
 (adjointlaw3_alive fu).bind fun (r3:Bool)=>
 cond (!r3)
  (some false)
  ((text_Tokens fu s1).bind fun ((r4,r5):(List SToken)×SFault)=>
   (cond (r5.Err !=0) (some true) (some ((between2.length:Int)==0))).bind fun (v6:Bool)=>
   cond v6
    (some true)
    ((loopF (adjointlaw3_TextBlanks_l1 fu between2 r4) fu ((ByteArray.mk #[]),0)).bind fun (t14:ByteArray)=>
    cond (decide ((t14.size:Int)>65536))
     (some true)
     ((text_Read fu s1).bind fun ((r15,r16):(List SFunc)×SFault)=>
      (text_Read fu t14).bind fun ((r17,r18):(List SFunc)×SFault)=>
      (cond (r16.Err==r18.Err) ((adjointref3_SameProgram fu r15 r17).bind fun (r19:Bool)=>
       some r19) (some false)).bind fun (v20:Bool)=>
      some v20)))
end F
end
end Go.DN
