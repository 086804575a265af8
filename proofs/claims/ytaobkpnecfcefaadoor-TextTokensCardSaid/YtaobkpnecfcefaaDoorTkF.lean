/-
  The functions, as Lean functions over data.
-/
import Derived.Test.YtaobkpnecfcefaaDoorTkS
set_option maxRecDepth 20000
set_option linter.unusedVariables false
set_option linter.unusedSimpArgs false
namespace Go.DN
open Go.AM
noncomputable section
open Go.IntKind (wrap)
open Int (toNat)
namespace F
def text_lexer_blanks_1 (fu:Nat) (c1:Int):Option Bool:=
 some (c1 !=10)
def text_lexer_while_l1 (fu:Nat):ByteArray×Int→Option ((ByteArray×Int)⊕(ByteArray×Int)):=fun (m3,m4)=>
 (cond (decide (m4<(m3.size:Int))) ((bidx m3 m4).bind fun c5=>
  (text_lexer_blanks_1 fu ((c5.toNat:Nat):Int)).bind fun (r6:Bool)=>
  some r6) (some false)).bind fun (v7:Bool)=>
 cond v7
  (some (.inl (m3,wrap .i64 (m4+1))))
  (some (.inr (m3,m4)))
def text_lexer_while (fu:Nat) (m1:ByteArray) (m2:Int):Option (ByteArray×ByteArray×Int):=
 (loopF (text_lexer_while_l1 fu) fu (m1,m2)).bind fun ((m8,m9):ByteArray×Int)=>
 (chk ((0:Int)≤m2∧m2≤m9∧m9≤(m8.size:Int))).bind fun _=>
 some (m8.extract m2.toNat m9.toNat,m8,m9)
def text_lexer_blanks_l1 (fu:Nat):ByteArray×Int→Option ((ByteArray×Int)⊕(Ex (ByteArray×Int) (ByteArray×Int))):=fun (m3,m4)=>
 cond (decide (m4<(m3.size:Int)))
  ((bidx m3 m4).bind fun c5=>
   (cond (((c5.toNat:Nat):Int)==32)
     (some (((c5.toNat:Nat):Int)==32))
     ((cond (((c5.toNat:Nat):Int)==9)
       (some (((c5.toNat:Nat):Int)==9))
       ((cond (((c5.toNat:Nat):Int)==10)
          (some (((c5.toNat:Nat):Int)==10))
          (some (((c5.toNat:Nat):Int)==13))).bind fun (v6:Bool)=>
        some v6)).bind fun (v7:Bool)=>
     some v7)).bind fun (v8:Bool)=>
   bindE (fun r=>r) (cond v8
     (some (.brk (m3,wrap .i64 (m4+1))))
     (cond (((c5.toNat:Nat):Int)==35)
      ((text_lexer_while fu m3 m4).bind fun ((r9,r10,r11):ByteArray×ByteArray×Int)=>
       some (.brk (r10,r11)))
      (some (.ret (.inr (.ret (m3,m4)))))):Option (Ex (ByteArray×Int) ((ByteArray×Int)⊕(Ex (ByteArray×Int) (ByteArray×Int))))) fun ((m12,m13):ByteArray×Int)=>
   some (.inl (m12,m13)))
  (some (.inr (.brk (m3,m4))))
def text_lexer_blanks (fu:Nat) (m1:ByteArray) (m2:Int):Option (ByteArray×Int):=
 bindE (fun r=>r) (loopF (text_lexer_blanks_l1 fu) fu (m1,m2):Option (Ex (ByteArray×Int) (ByteArray×Int))) fun ((m14,m15):ByteArray×Int)=>
 some (m14,m15)
def text_letter (fu:Nat) (c1:Int):Option Bool:=
 (cond (decide (c1≥97)) (cond (decide (c1≤122)) (some true) (cond (decide (c1≥65)) (cond (decide (c1≤90)) (some true) (some (c1==95))) (some (c1==95)))) (cond (decide (c1≥65)) (cond (decide (c1≤90)) (some true) (some (c1==95))) (some (c1==95)))).bind fun (v2:Bool)=>
 some v2
def text_digit (fu:Nat) (c1:Int):Option Bool:=
 (cond (decide (c1≥48)) (some (decide (c1≤57))) (some false)).bind fun (v2:Bool)=>
 some v2
def text_lexer_next_1 (fu:Nat) (c1:Int):Option Bool:=
 ((text_letter fu c1).bind fun (r2:Bool)=>
  cond r2 (some true) ((text_digit fu c1).bind fun (r3:Bool)=>
  some r3)).bind fun (v4:Bool)=>
 some v4
def text_lexer_while_2_l1 (fu:Nat):ByteArray×Int→Option ((ByteArray×Int)⊕(ByteArray×Int)):=fun (m3,m4)=>
 (cond (decide (m4<(m3.size:Int))) ((bidx m3 m4).bind fun c5=>
  (text_lexer_next_1 fu ((c5.toNat:Nat):Int)).bind fun (r6:Bool)=>
  some r6) (some false)).bind fun (v7:Bool)=>
 cond v7
  (some (.inl (m3,wrap .i64 (m4+1))))
  (some (.inr (m3,m4)))
def text_lexer_while_2 (fu:Nat) (m1:ByteArray) (m2:Int):Option (ByteArray×ByteArray×Int):=
 (loopF (text_lexer_while_2_l1 fu) fu (m1,m2)).bind fun ((m8,m9):ByteArray×Int)=>
 (chk ((0:Int)≤m2∧m2≤m9∧m9≤(m8.size:Int))).bind fun _=>
 some (m8.extract m2.toNat m9.toNat,m8,m9)
def text_lexer_next_2 (fu:Nat) (c1:Int):Option Bool:=
 ((text_letter fu c1).bind fun (r2:Bool)=>
  cond r2 (some true) ((text_digit fu c1).bind fun (r3:Bool)=>
  some r3)).bind fun (v4:Bool)=>
 some v4
def text_lexer_while_3_l1 (fu:Nat):ByteArray×Int→Option ((ByteArray×Int)⊕(ByteArray×Int)):=fun (m3,m4)=>
 (cond (decide (m4<(m3.size:Int))) ((bidx m3 m4).bind fun c5=>
  (text_lexer_next_2 fu ((c5.toNat:Nat):Int)).bind fun (r6:Bool)=>
  some r6) (some false)).bind fun (v7:Bool)=>
 cond v7
  (some (.inl (m3,wrap .i64 (m4+1))))
  (some (.inr (m3,m4)))
def text_lexer_while_3 (fu:Nat) (m1:ByteArray) (m2:Int):Option (ByteArray×ByteArray×Int):=
 (loopF (text_lexer_while_3_l1 fu) fu (m1,m2)).bind fun ((m8,m9):ByteArray×Int)=>
 (chk ((0:Int)≤m2∧m2≤m9∧m9≤(m8.size:Int))).bind fun _=>
 some (m8.extract m2.toNat m9.toNat,m8,m9)
def text_lexer_next_l1 (fu:Nat) (m2:Int) (r9:ByteArray) (r10:ByteArray) (r11:Int):Int→Option (Int⊕(Ex Unit ((SToken×ByteArray×Int)⊕((Int×Int)×(ByteArray×Int))))):=fun v12=>
 cond (decide (v12<(r9.size:Int)))
  ((bidx r9 v12).bind fun c13=>
   (text_digit fu ((c13.toNat:Nat):Int)).bind fun (r14:Bool)=>
   cond (!r14)
    (some (.inr (.ret (.inr ((7,m2),(r10,r11))))))
    (some (.inl (wrap .i64 (v12+1)))))
  (some (.inr (.brk ())))
def text_lexer_next (fu:Nat) (m1:ByteArray) (m2:Int):Option ((SToken×ByteArray×Int)⊕((Int×Int)×(ByteArray×Int))):=
 (bidx m1 m2).bind fun c3=>
 (text_letter fu ((c3.toNat:Nat):Int)).bind fun (r4:Bool)=>
 cond r4
  ((text_lexer_while_2 fu m1 m2).bind fun ((r5,r6,r7):ByteArray×ByteArray×Int)=>
   some (.inl ((⟨r5,m2⟩:SToken),r6,r7)))
  ((text_digit fu ((c3.toNat:Nat):Int)).bind fun (r8:Bool)=>
   cond r8
    ((text_lexer_while_3 fu m1 m2).bind fun ((r9,r10,r11):ByteArray×ByteArray×Int)=>
    bindE (fun r=>r) (loopF (text_lexer_next_l1 fu m2 r9 r10 r11) fu 0:Option (Ex Unit ((SToken×ByteArray×Int)⊕((Int×Int)×(ByteArray×Int))))) fun (_:Unit)=>
    ((bidx r9 0).bind fun c15=>
     cond (((c15.toNat:Nat):Int)==48) (some (decide ((r9.size:Int)>1))) (some false)).bind fun (v16:Bool)=>
    cond v16
     (some (.inr ((7,m2),(r10,r11))))
     ((parseI r9 10 64).bind fun ((r17,r18):Int×Bool)=>
      cond r18
       (some (.inr ((4,m2),(r10,r11))))
       (some (.inl ((⟨r9,m2⟩:SToken),r10,r11)))))
    ((cond (((c3.toNat:Nat):Int)==40)
      (some (((c3.toNat:Nat):Int)==40))
      ((cond (((c3.toNat:Nat):Int)==41)
         (some (((c3.toNat:Nat):Int)==41))
         ((cond (((c3.toNat:Nat):Int)==91)
           (some (((c3.toNat:Nat):Int)==91))
           ((cond (((c3.toNat:Nat):Int)==93)
              (some (((c3.toNat:Nat):Int)==93))
              ((cond (((c3.toNat:Nat):Int)==123)
                (some (((c3.toNat:Nat):Int)==123))
                ((cond (((c3.toNat:Nat):Int)==125)
                   (some (((c3.toNat:Nat):Int)==125))
                   ((cond (((c3.toNat:Nat):Int)==44)
                     (some (((c3.toNat:Nat):Int)==44))
                     ((cond (((c3.toNat:Nat):Int)==58)
                        (some (((c3.toNat:Nat):Int)==58))
                        ((cond (((c3.toNat:Nat):Int)==61)
                          (some (((c3.toNat:Nat):Int)==61))
                          ((cond (((c3.toNat:Nat):Int)==43)
                             (some (((c3.toNat:Nat):Int)==43))
                             ((cond (((c3.toNat:Nat):Int)==45)
                               (some (((c3.toNat:Nat):Int)==45))
                               ((cond (((c3.toNat:Nat):Int)==42)
                                  (some (((c3.toNat:Nat):Int)==42))
                                  (some (((c3.toNat:Nat):Int)==59))).bind fun (v19:Bool)=>
                                some v19)).bind fun (v20:Bool)=>
                             some v20)).bind fun (v21:Bool)=>
                           some v21)).bind fun (v22:Bool)=>
                        some v22)).bind fun (v23:Bool)=>
                      some v23)).bind fun (v24:Bool)=>
                   some v24)).bind fun (v25:Bool)=>
                 some v25)).bind fun (v26:Bool)=>
              some v26)).bind fun (v27:Bool)=>
            some v27)).bind fun (v28:Bool)=>
         some v28)).bind fun (v29:Bool)=>
       some v29)).bind fun (v30:Bool)=>
    cond v30
     ((chk ((0:Int)≤m2∧m2≤(wrap .i64 (m2+1))∧(wrap .i64 (m2+1))≤(m1.size:Int))).bind fun _=>
      some (.inl ((⟨m1.extract m2.toNat (wrap .i64 (m2+1)).toNat,m2⟩:SToken),m1,wrap .i64 (m2+1))))
     (some (.inr ((7,m2),(m1,m2))))))
def text_Tokens_1 (fu:Nat) (m1:Int) (m2:Int) (m3:List SToken):Option (Int×Int×(List SToken)):=
 (cond (m1 !=0)
   (some ([]:List SToken))
   (some m3)).bind fun (m4:List SToken)=>
 some (m1,m2,m4)
def text_Tokens_l1 (fu:Nat) (s1:ByteArray):ByteArray×Int×(List SToken)→Option ((ByteArray×Int×(List SToken))⊕(Ex (ByteArray×Int×(List SToken)) (((List SToken)×SFault)⊕((Int×Int)×Unit)))):=fun (m4,m5,m6)=>
 cond (decide (m5<(s1.size:Int)))
  (amb (bindP (text_lexer_next fu m4 m5)
    (fun ((r7,r8,r9):SToken×ByteArray×Int)=>
     (chk (m6.length+[r7].length≤maxLen∧(m6.length+[r7].length)*24≤140737488355328)).bind fun _=>
     (text_lexer_blanks fu r8 r9).bind fun ((r10,r11):ByteArray×Int)=>
     some (.inl (r10,r11,m6++[r7])))
    (fun ((e12,e13),(r14,r15))=>
     ((text_Tokens_1 fu e12 e13 m6).bind fun ((r16,r17,r18):Int×Int×(List SToken))=>
      some (.inl (r18,(⟨r16,r17⟩:SFault)))).bind fun r=>some (.inr (.ret r)))) (bindP (text_lexer_next fu m4 m5)
    (fun ((r7,r8,r9):SToken×ByteArray×Int)=>
     amb2 ((chk (m6.length+[r7].length≤maxLen∧(m6.length+[r7].length)*24≤140737488355328)).bind fun _=>
     (text_lexer_blanks fu r8 r9).bind fun ((r10,r11):ByteArray×Int)=>
     some (.inl (r10,r11,m6++[r7]))))
    (fun ((e12,e13),(r14,r15))=>
     ((text_Tokens_1 fu e12 e13 m6).bind fun ((r16,r17,r18):Int×Int×(List SToken))=>
      some (.inl (r18,(⟨r16,r17⟩:SFault)))).bind fun r=>some (.inr (.ret r)))))
  (some (.inr (.brk (m4,m5,m6))))
def text_Tokens_p (fu:Nat) (s1:ByteArray):Option (((List SToken)×SFault)⊕((Int×Int)×Unit)):=
 cond (decide ((s1.size:Int)>65536))
  (some (.inl (([]:List SToken),(⟨5,0⟩:SFault))))
  ((text_lexer_blanks fu s1 0).bind fun ((r2,r3):ByteArray×Int)=>
   bindE (fun r=>r) (loopF (text_Tokens_l1 fu s1) fu (r2,r3,([]:List SToken)):Option (Ex (ByteArray×Int×(List SToken)) (((List SToken)×SFault)⊕((Int×Int)×Unit)))) fun ((m19,m20,m21):ByteArray×Int×(List SToken))=>
   (amb (amb2 (some (0,0))) (some (0,0))).bind fun ((m22,m23):Int×Int)=>
   (text_Tokens_1 fu m22 m23 m21).bind fun ((r24,r25,r26):Int×Int×(List SToken))=>
   some (.inl (r26,(⟨r24,r25⟩:SFault))))
def text_Tokens (fu:Nat) (s1:ByteArray):Option ((List SToken)×SFault):=unP (text_Tokens_p fu s1)
def adjointref3_isBlank (fu:Nat) (c1:Int):Option Bool:=
 (cond (c1==32) (some true) (cond (c1==9) (some true) (cond (c1==10) (some true) (some (c1==13))))).bind fun (v2:Bool)=>
 some v2
def adjointref3_isLetter (fu:Nat) (c1:Int):Option Bool:=
 (cond (decide (97≤c1)) (cond (decide (c1≤122)) (some true) (cond (decide (65≤c1)) (cond (decide (c1≤90)) (some true) (some (c1==95))) (some (c1==95)))) (cond (decide (65≤c1)) (cond (decide (c1≤90)) (some true) (some (c1==95))) (some (c1==95)))).bind fun (v2:Bool)=>
 some v2
def adjointref3_isDigit (fu:Nat) (c1:Int):Option Bool:=
 (cond (decide (48≤c1)) (some (decide (c1≤57))) (some false)).bind fun (v2:Bool)=>
 some v2
def adjointref3_numeral_l1 (fu:Nat) (s1:ByteArray):Bool×Int→Option ((Bool×Int)⊕(Ex Unit Bool)):=fun (v2,i3)=>
 cond (decide (i3<(s1.size:Int)))
  ((bidx s1 i3).bind fun c4=>
   (adjointref3_isDigit fu ((c4.toNat:Nat):Int)).bind fun (r5:Bool)=>
   cond (!r5)
    (some (.inr (.ret false)))
    (some (.inl (v2,wrap .i64 (i3+1)))))
  (some (.inr (.brk ())))
def adjointref3_numeral (fu:Nat) (s1:ByteArray):Option Bool:=
 bindE (fun r=>r) (loopF (adjointref3_numeral_l1 fu s1) fu (false,0):Option (Ex Unit Bool)) fun (_:Unit)=>
 (cond ((s1.size:Int)==1) (some true) ((bidx s1 0).bind fun c6=>
  some (((c6.toNat:Nat):Int) !=48))).bind fun (v7:Bool)=>
 some v7
def adjointref3_Value_l1 (fu:Nat) (s1:ByteArray):Int×Bool×Int×Int→Option ((Int×Bool×Int×Int)⊕(Ex Int (Int×Bool))):=fun (v2,v3,n4,i5)=>
 cond (decide (i5<(s1.size:Int)))
  ((bidx s1 i5).bind fun c6=>
   (chk (10≠0)).bind fun _=>
   cond (decide (n4>(wrap .i64 (Int.tdiv (wrap .i64 (9223372036854775807-(wrap .i64 (wrap .u8 (((c6.toNat:Nat):Int)-48))))) 10))))
    (some (.inr (.ret (0,false))))
    (some (.inl (v2,v3,wrap .i64 ((wrap .i64 (n4*10))+(wrap .i64 (wrap .u8 (((c6.toNat:Nat):Int)-48)))),wrap .i64 (i5+1)))))
  (some (.inr (.brk n4)))
def adjointref3_Value (fu:Nat) (s1:ByteArray):Option (Int×Bool):=
 bindE (fun r=>r) (loopF (adjointref3_Value_l1 fu s1) fu (0,false,0,0):Option (Ex Int (Int×Bool))) fun (n7:Int)=>
 some (n7,true)
def adjointref3_sign_l1 (fu:Nat) (c1:Int):Bool×Int→Option ((Bool×Int)⊕(Ex Unit Bool)):=fun (v2,i3)=>
 cond (decide (i3<13))
  ((bidx (ByteArray.mk #[40,41,91,93,123,125,44,58,61,43,45,42,59]) i3).bind fun c4=>
   cond (((c4.toNat:Nat):Int)==c1)
    (some (.inr (.ret true)))
    (some (.inl (v2,wrap .i64 (i3+1)))))
  (some (.inr (.brk ())))
def adjointref3_sign (fu:Nat) (c1:Int):Option Bool:=
 bindE (fun r=>r) (loopF (adjointref3_sign_l1 fu c1) fu (false,0):Option (Ex Unit Bool)) fun (_:Unit)=>
 some false
def adjointref3_Tokens_l1 (fu:Nat) (s1:ByteArray):Int→Option (Int⊕Int):=fun i10=>
 (cond (decide (i10<(s1.size:Int))) ((bidx s1 i10).bind fun c11=>
  some (((c11.toNat:Nat):Int) !=10)) (some false)).bind fun (v12:Bool)=>
 cond v12
  (some (.inl (wrap .i64 (i10+1))))
  (some (.inr i10))
def adjointref3_Tokens_l2 (fu:Nat) (s1:ByteArray):Int→Option (Int⊕Int):=fun k19=>
 (cond (decide (k19<(s1.size:Int))) ((bidx s1 k19).bind fun c20=>
  (adjointref3_isLetter fu ((c20.toNat:Nat):Int)).bind fun (r21:Bool)=>
  cond r21 (some true) ((bidx s1 k19).bind fun c22=>
  (adjointref3_isDigit fu ((c22.toNat:Nat):Int)).bind fun (r23:Bool)=>
  some r23)) (some false)).bind fun (v24:Bool)=>
 cond v24
  (some (.inl (wrap .i64 (k19+1))))
  (some (.inr k19))
def adjointref3_Tokens_l3 (fu:Nat) (s1:ByteArray):Int×(List SToken)×Int×Int×(List SToken)→Option ((Int×(List SToken)×Int×Int×(List SToken))⊕(Ex (Int×Int×(List SToken)) ((List SToken)×SFault))):=fun (i2,v3,m4,m5,m6)=>
 cond (decide (i2<(s1.size:Int)))
  ((bidx s1 i2).bind fun c7=>
   (adjointref3_isBlank fu ((c7.toNat:Nat):Int)).bind fun (r8:Bool)=>
   bindE (fun r=>r) (cond r8
     (some (.brk (wrap .i64 (i2+1),v3,m4,m5,m6)))
     ((bidx s1 i2).bind fun c9=>
     bindE (fun r=>r) (cond (((c9.toNat:Nat):Int)==35)
       ((loopF (adjointref3_Tokens_l1 fu s1) fu i2).bind fun (i13:Int)=>
        some (.brk (i13,v3,m4,m5,m6)))
       (((bidx s1 i2).bind fun c14=>
         (adjointref3_isLetter fu ((c14.toNat:Nat):Int)).bind fun (r15:Bool)=>
         cond r15 (some true) ((bidx s1 i2).bind fun c16=>
         (adjointref3_isDigit fu ((c16.toNat:Nat):Int)).bind fun (r17:Bool)=>
         some r17)).bind fun (v18:Bool)=>
        bindE (fun r=>r) (cond v18
          ((loopF (adjointref3_Tokens_l2 fu s1) fu i2).bind fun (k25:Int)=>
          (chk ((0:Int)≤i2∧i2≤k25∧k25≤(s1.size:Int))).bind fun _=>
          (bidx (s1.extract i2.toNat k25.toNat) 0).bind fun c26=>
          (adjointref3_isDigit fu ((c26.toNat:Nat):Int)).bind fun (r27:Bool)=>
          bindE (fun r=>r) (cond r27
            ((adjointref3_numeral fu (s1.extract i2.toNat k25.toNat)).bind fun (r28:Bool)=>
             cond (!r28)
              (some (.ret (.ret (.ret (.ret (.inr (.ret (([]:List SToken),(⟨7,i2⟩:SFault)))))))))
              ((adjointref3_Value fu (s1.extract i2.toNat k25.toNat)).bind fun ((r29,r30):Int×Bool)=>
              cond (!r30)
               (some (.ret (.ret (.ret (.ret (.inr (.ret (([]:List SToken),(⟨4,i2⟩:SFault)))))))))
               (some (.brk (v3,m4,m5)))))
            (some (.brk (v3,m4,m5))):Option (Ex ((List SToken)×Int×Int) (Ex ((List SToken)×Int×Int×Int×(List SToken)) (Ex (Int×(List SToken)×Int×Int×(List SToken)) (Ex (Int×(List SToken)×Int×Int×(List SToken)) ((Int×(List SToken)×Int×Int×(List SToken))⊕(Ex (Int×Int×(List SToken)) ((List SToken)×SFault)))))))) fun ((v31,m32,m33):(List SToken)×Int×Int)=>
          (chk (m6.length+[(⟨s1.extract i2.toNat k25.toNat,i2⟩:SToken)].length≤maxLen∧(m6.length+[(⟨s1.extract i2.toNat k25.toNat,i2⟩:SToken)].length)*24≤140737488355328)).bind fun _=>
          some (.brk (v31,k25,m32,m33,m6++[(⟨s1.extract i2.toNat k25.toNat,i2⟩:SToken)])))
          ((bidx s1 i2).bind fun c34=>
          (adjointref3_sign fu ((c34.toNat:Nat):Int)).bind fun (r35:Bool)=>
          cond r35
           ((chk ((0:Int)≤i2∧i2≤(wrap .i64 (i2+1))∧(wrap .i64 (i2+1))≤(s1.size:Int))).bind fun _=>
            (chk (m6.length+[(⟨s1.extract i2.toNat (wrap .i64 (i2+1)).toNat,i2⟩:SToken)].length≤maxLen∧(m6.length+[(⟨s1.extract i2.toNat (wrap .i64 (i2+1)).toNat,i2⟩:SToken)].length)*24≤140737488355328)).bind fun _=>
            some (.brk (v3,wrap .i64 (i2+1),m4,m5,m6++[(⟨s1.extract i2.toNat (wrap .i64 (i2+1)).toNat,i2⟩:SToken)])))
           (some (.ret (.ret (.ret (.inr (.ret (([]:List SToken),(⟨7,i2⟩:SFault))))))))):Option (Ex ((List SToken)×Int×Int×Int×(List SToken)) (Ex (Int×(List SToken)×Int×Int×(List SToken)) (Ex (Int×(List SToken)×Int×Int×(List SToken)) ((Int×(List SToken)×Int×Int×(List SToken))⊕(Ex (Int×Int×(List SToken)) ((List SToken)×SFault))))))) fun ((v36,i37,m38,m39,m40):(List SToken)×Int×Int×Int×(List SToken))=>
        some (.brk (i37,v36,m38,m39,m40))):Option (Ex (Int×(List SToken)×Int×Int×(List SToken)) (Ex (Int×(List SToken)×Int×Int×(List SToken)) ((Int×(List SToken)×Int×Int×(List SToken))⊕(Ex (Int×Int×(List SToken)) ((List SToken)×SFault)))))) fun ((i41,v42,m43,m44,m45):Int×(List SToken)×Int×Int×(List SToken))=>
     some (.brk (i41,v42,m43,m44,m45))):Option (Ex (Int×(List SToken)×Int×Int×(List SToken)) ((Int×(List SToken)×Int×Int×(List SToken))⊕(Ex (Int×Int×(List SToken)) ((List SToken)×SFault))))) fun ((i46,v47,m48,m49,m50):Int×(List SToken)×Int×Int×(List SToken))=>
   some (.inl (i46,v47,m48,m49,m50)))
  (some (.inr (.brk (m4,m5,m6))))
def adjointref3_Tokens (fu:Nat) (s1:ByteArray):Option ((List SToken)×SFault):=
 cond (decide ((s1.size:Int)>65536))
  (some (([]:List SToken),(⟨5,0⟩:SFault)))
  (bindE (fun r=>r) (loopF (adjointref3_Tokens_l3 fu s1) fu (0,([]:List SToken),0,0,([]:List SToken)):Option (Ex (Int×Int×(List SToken)) ((List SToken)×SFault))) fun ((m51,m52,m53):Int×Int×(List SToken))=>
   some (m53,(⟨0,0⟩:SFault)))
def adjointlaw3_sameTokens_l1 (fu:Nat) (a1:List SToken) (b2:List SToken):Bool×Int→Option ((Bool×Int)⊕(Ex Unit Bool)):=fun (v3,v4)=>
 cond (decide (v4<(a1.length:Int)))
  ((idx a1 v4).bind fun x5=>
   (idx b2 v4).bind fun x6=>
   cond (!(x5.Text==x6.Text&&(x5.At==x6.At&&true)))
    (some (.inr (.ret false)))
    (some (.inl (v3,wrap .i64 (v4+1)))))
  (some (.inr (.brk ())))
def adjointlaw3_sameTokens (fu:Nat) (a1:List SToken) (b2:List SToken):Option Bool:=
 cond ((a1.length:Int) !=(b2.length:Int))
  (some false)
  (bindE (fun r=>r) (loopF (adjointlaw3_sameTokens_l1 fu a1 b2) fu (false,0):Option (Ex Unit Bool)) fun (_:Unit)=>
   some true)
def adjointlaw3_TextTokens (fu:Nat) (s1:ByteArray):Option Bool:=
 (text_Tokens fu s1).bind fun ((r2,r3):(List SToken)×SFault)=>
 (adjointref3_Tokens fu s1).bind fun ((r4,r5):(List SToken)×SFault)=>
 ((adjointlaw3_sameTokens fu r2 r4).bind fun (r6:Bool)=>
  cond r6 (some (r3.Err==r5.Err&&(r3.At==r5.At&&true))) (some false)).bind fun (v7:Bool)=>
 some v7
end F
end
end Go.DN
