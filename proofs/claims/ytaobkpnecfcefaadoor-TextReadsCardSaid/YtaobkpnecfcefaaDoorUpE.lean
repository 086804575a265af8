/-
  Text: tokens: the plain law: both go the same way.
-/
import Derived.Test.YtaobkpnecfcefaaDoorUpD
set_option linter.unusedVariables false
set_option linter.unusedSimpArgs false
namespace Go.DN
open Go.AM
inductive Bl (s:ByteArray):Nat→Nat→Prop
 | stop {i:Nat}(h:i<s.size→isB (ch s i)=false∧ch s i≠35):Bl s i i
 | blank {i j:Nat}(h:i<s.size) (hb:isB (ch s i)=true) (k:Bl s (i+1) j):Bl s i j
 | rem {i j:Nat}(h:i<s.size) (hb:ch s i=35) (k:Bl s (scanP s notNL i) j):Bl s i j
theorem rem_gt {s:ByteArray}{i:Nat}(h:i<s.size) (hb:ch s i=35):i<scanP s notNL i∧scanP s notNL i≤s.size:=by
 have h1:=scanP_go (p:=notNL) h (by rw[hb];rfl)
 have h2:=scanP_ge (s:=s) (p:=notNL) (i+1)
 exact⟨by omega,scanP_sz (by omega)⟩
theorem Bl.tot {s:ByteArray}:∀(m i:Nat),s.size-i≤m→i≤s.size→∃j,Bl s i j
 | 0,i,hm,hi=>⟨i,.stop fun h=>by omega⟩
 | m+1,i,hm,hi=>by
  by_cases h:i<s.size
  ·by_cases hb:isB (ch s i)=true
   ·obtain⟨j,hj⟩:=Bl.tot (s:=s) m (i+1) (by omega) (by omega);exact⟨j,.blank h hb hj⟩
   ·by_cases hr:ch s i=35
    ·have:=rem_gt h hr
     obtain⟨j,hj⟩:=Bl.tot (s:=s) m (scanP s notNL i) (by omega) (by omega);exact⟨j,.rem h hr hj⟩
    ·exact⟨i,.stop fun _=>⟨by simpa using hb,hr⟩⟩
  ·exact⟨i,.stop fun h'=>absurd h' h⟩
theorem Bl.facts {s:ByteArray}{i j:Nat}(h:Bl s i j):i≤j∧(i≤s.size→j≤s.size)∧(j<s.size→isB (ch s j)=false∧ch s j≠35):=by
 induction h with
 | stop h=>exact⟨Nat.le_refl _,id,h⟩
 | blank h hb k ih=>exact⟨by omega,fun _=>ih.2.1 (by omega),ih.2.2⟩
 | rem h hb k ih=>have:=rem_gt h hb;exact⟨by omega,fun _=>ih.2.1 (by omega),ih.2.2⟩
abbrev TRes:=List SToken×SFault
inductive Lex (s:ByteArray):Nat→List SToken→TRes→Prop
 | fin {out:List SToken}:Lex s s.size out (out,⟨0,0⟩)
 | bad {j e:Nat}{out:List SToken}(h:j<s.size) (ht:tokA s j=.inr e):Lex s j out ([],⟨(e:Int),(j:Int)⟩)
 | tok {j k j':Nat}{out:List SToken}{r:TRes}(h:j<s.size) (ht:tokA s j=.inl k) (hb:Bl s k j') (hl:Lex s j' (out++[(⟨s.extract j k,(j:Int)⟩:SToken)]) r):Lex s j out r
theorem Lex.tot {s:ByteArray}:∀(m j:Nat) (out:List SToken),s.size-j≤m→j≤s.size→∃r,Lex s j out r
 | 0,j,out,hm,hj=>by
  obtain rfl:j=s.size:=by omega
  exact⟨_,.fin⟩
 | m+1,j,out,hm,hj=>by
  by_cases h:j<s.size
  ·cases ht:tokA s j with
   | inr e=>exact⟨_,.bad h ht⟩
   | inl k=>
    have hk:=tokA_gt h ht
    obtain⟨j',hb⟩:=Bl.tot (s.size-k) k (Nat.le_refl _) hk.2
    have hf:=hb.facts
    obtain⟨r,hr⟩:=Lex.tot m j' (out++[(⟨s.extract j k,(j:Int)⟩:SToken)]) (by omega) (hf.2.1 hk.2)
    exact⟨r,.tok h ht hb hr⟩
  ·obtain rfl:j=s.size:=by omega
   exact⟨_,.fin⟩
theorem blanks_loop {s:ByteArray}(hs:s.size≤Mx){f0:Nat}(hf0:s.size<f0){i j:Nat}(h:Bl s i j):∀fu:Nat,i≤s.size→s.size-i<fu→
  ∃e,loopF (F.text_lexer_blanks_l1 f0) fu (s,(i:Int))=some e∧(e=.brk (s,(j:Int))∨e=.ret (s,(j:Int))):=by
 induction h with
 | stop h=>
  rename_i i
  intro fu hi hf
  obtain⟨f,rfl⟩:∃f,fu=f+1:=⟨fu-1,by omega⟩
  by_cases hlt:i<s.size
  ·obtain⟨hb,hr⟩:=h hlt
   obtain⟨c,h1,h2⟩:=ch_get hlt
   have hd:decide ((i:Int)<(s.size:Int))=true:=by simp;omega
   simp only[isB,Bool.or_eq_false_iff,decide_eq_false_iff_not] at hb
   have q:∀k:Nat,ch s i≠k→(((c.toNat:Nat):Int)==(k:Int))=false:=fun k h=>by rw[nat_beq,h2];exact decide_eq_false h
   have q1:(((c.toNat:Nat):Int)==32)=false:=q 32 hb.1
   have q2:(((c.toNat:Nat):Int)==9)=false:=q 9 hb.2.1
   have q3:(((c.toNat:Nat):Int)==10)=false:=q 10 hb.2.2.1
   have q4:(((c.toNat:Nat):Int)==13)=false:=q 13 hb.2.2.2
   have q5:(((c.toNat:Nat):Int)==35)=false:=q 35 hr
   refine⟨.ret (s,(i:Int)),?_,.inr rfl⟩
   simp only[loopF,F.text_lexer_blanks_l1,hd,cond_true,h1,Option.bind_some,q1,q2,q3,q4,q5,cond_false,bindE]
  ·have hd:decide ((i:Int)<(s.size:Int))=false:=by simp;omega
   refine⟨.brk (s,(i:Int)),?_,.inl rfl⟩
   simp only[loopF,F.text_lexer_blanks_l1,hd,cond_false]
 | blank h hb k ih=>
  rename_i i j
  intro fu hi hf
  obtain⟨f,rfl⟩:∃f,fu=f+1:=⟨fu-1,by omega⟩
  obtain⟨c,h1,h2⟩:=ch_get h
  have hd:decide ((i:Int)<(s.size:Int))=true:=by simp;omega
  have hw:=wr h hs
  obtain⟨e,h3,h4⟩:=ih f (by omega) (by omega)
  refine⟨e,?_,h4⟩
  have q:∀k:Nat,(((c.toNat:Nat):Int)==(k:Int))=decide (ch s i=k):=fun k=>by rw[nat_beq,h2]
  have q1:(((c.toNat:Nat):Int)==32)=decide (ch s i=32):=q 32
  have q2:(((c.toNat:Nat):Int)==9)=decide (ch s i=9):=q 9
  have q3:(((c.toNat:Nat):Int)==10)=decide (ch s i=10):=q 10
  have q4:(((c.toNat:Nat):Int)==13)=decide (ch s i=13):=q 13
  have big:(cond (decide (ch s i=32)) (some (decide (ch s i=32))) ((cond (decide (ch s i=9)) (some (decide (ch s i=9))) ((cond (decide (ch s i=10)) (some (decide (ch s i=10))) (some (decide (ch s i=13)))).bind fun (v6:Bool)=>some v6)).bind fun (v7:Bool)=>some v7))=some true:=by
   simp only[isB] at hb
   revert hb
   cases decide (ch s i=32) <;> cases decide (ch s i=9) <;> cases decide (ch s i=10) <;> cases decide (ch s i=13) <;> intro hb <;> first | rfl | cases hb
  simp only[loopF,F.text_lexer_blanks_l1,hd,cond_true,h1,Option.bind_some,q1,q2,q3,q4]
  rw[big]
  simp only[Option.bind_some,cond_true,bindE,hw]
  exact h3
 | rem h hb k ih=>
  rename_i i j
  intro fu hi hf
  obtain⟨f,rfl⟩:∃f,fu=f+1:=⟨fu-1,by omega⟩
  obtain⟨c,h1,h2⟩:=ch_get h
  have hd:decide ((i:Int)<(s.size:Int))=true:=by simp;omega
  have hg:=rem_gt h hb
  obtain⟨e,h3,h4⟩:=ih f (by omega) (by omega)
  refine⟨e,?_,h4⟩
  have hc:c.toNat=35:=h2.trans hb
  simp only[loopF,F.text_lexer_blanks_l1,hd,cond_true,h1,Option.bind_some,hc]
  simp only[wh1 hs hf0 hi,Option.bind_some]
  exact h3
theorem blanks_ok {s:ByteArray}(hs:s.size≤Mx){fu:Nat}(hf:s.size<fu){i j:Nat}(hi:i≤s.size) (h:Bl s i j):F.text_lexer_blanks fu s (i:Int)=some (s,(j:Int)):=by
 unfold F.text_lexer_blanks
 obtain⟨e,h1,h2⟩:=blanks_loop hs hf h fu hi (by omega)
 rw[h1]
 rcases h2 with rfl | rfl <;> rfl
theorem app_ok {out:List SToken}{x:SToken}(h:out.length≤Mx):chk (out.length+[x].length≤maxLen∧(out.length+[x].length)*24≤140737488355328)=some ():=by
 refine chk_pos ⟨?_,?_⟩
 ·simp only[List.length_singleton,maxLen,Mx] at *;omega
 ·simp only[List.length_singleton,Mx] at *;omega
theorem tokens1 (fu:Nat) (e a:Int) (out:List SToken):F.text_Tokens_1 fu e a out=some (e,a,if e=0 then out else[]):=by
 unfold F.text_Tokens_1
 by_cases h:e=0
 ·subst h;rfl
 ·have:(e !=0)=true:=by simpa using h
  rw[this,if_neg h];rfl
theorem text_loop {s:ByteArray}(hs:s.size≤Mx){f0:Nat}(hf0:s.size<f0){j:Nat}{out:List SToken}{r:TRes}(h:Lex s j out r):∀fu:Nat,j≤s.size→s.size-j<fu→out.length≤j→
  ∃e,loopF (F.text_Tokens_l1 f0 s) fu (s,(j:Int),out)=some e∧((∃a b,e=.brk (a,b,r.1)∧r.2=⟨0,0⟩)∨e=.ret (.inl r)):=by
 induction h with
 | fin=>
  intro fu hj hf ho
  obtain⟨f,rfl⟩:∃f,fu=f+1:=⟨fu-1,by omega⟩
  have hd:decide ((s.size:Int)<(s.size:Int))=false:=by simp
  refine⟨_,?_,.inl ⟨s,(s.size:Int),rfl,rfl⟩⟩
  simp only[loopF,F.text_Tokens_l1,hd,cond_false]
 | bad h ht=>
  rename_i j e out
  intro fu hj hf ho
  obtain⟨f,rfl⟩:∃f,fu=f+1:=⟨fu-1,by omega⟩
  have hd:decide ((j:Int)<(s.size:Int))=true:=by simp;omega
  obtain⟨p,hp⟩:=next_ok hs hf0 h
  rw[ht] at hp
  refine⟨_,?_,.inr rfl⟩
  have he:(e:Int)≠0:=by rcases tokA_err ht with rfl | rfl <;> decide
  simp only[loopF,F.text_Tokens_l1,hd,cond_true,amb2_self,amb_self,bindP,hp,Option.bind_some,tokens1,if_neg he]
 | tok h ht hb hl ih=>
  rename_i j k j' out r
  intro fu hj hf ho
  obtain⟨f,rfl⟩:∃f,fu=f+1:=⟨fu-1,by omega⟩
  have hd:decide ((j:Int)<(s.size:Int))=true:=by simp;omega
  obtain⟨p,hp⟩:=next_ok hs hf0 h
  rw[ht] at hp
  have hk:=tokA_gt h ht
  have hf:=hb.facts
  obtain⟨e,h1,h2⟩:=ih f (hf.2.1 hk.2) (by omega) (by simp;omega)
  refine⟨e,?_,h2⟩
  have hc:=app_ok (out:=out) (x:=(⟨s.extract j k,(j:Int)⟩:SToken)) (by omega)
  simp only[loopF,F.text_Tokens_l1,hd,cond_true,amb2_self,amb_self,bindP,hp,Option.bind_some,hc,blanks_ok hs hf0 hk.2 hb]
  exact h1
theorem text_ok {s:ByteArray}(hs:s.size≤Mx){fu:Nat}(hf:s.size<fu){j:Nat}{r:TRes}(hb:Bl s 0 j) (h:Lex s j [] r):F.text_Tokens fu s=some r:=by
 have hd:decide ((s.size:Int)>65536)=false:=by
  have:s.size≤65536:=hs
  exact decide_eq_false (by omega)
 have hb0:=blanks_ok hs hf (Nat.zero_le _) hb
 rw[show((0:Nat):Int)=0 from rfl] at hb0
 have hf':=hb.facts
 obtain⟨e,h1,h2⟩:=text_loop hs hf h fu (hf'.2.1 (Nat.zero_le _)) (by omega) (by simp)
 unfold F.text_Tokens unP F.text_Tokens_p
 simp only[hd,cond_false,hb0,Option.bind_some,h1]
 rcases h2 with ⟨a,b,rfl,h3⟩ | rfl
 ·obtain⟨r1,r2⟩:=r
  cases h3
  simp only[bindE,amb2_self,amb_self,Option.bind_some,tokens1]
  rfl
 ·rfl
theorem ref_step {s:ByteArray}(hs:s.size≤Mx){fu:Nat}(hf:s.size<fu) (h13:13<fu){j:Nat}(hj:j<s.size) (hb:isB (ch s j)=false) (hr:ch s j≠35){out:List SToken}(ho:out.length≤j) (v:List SToken) (a b:Int):
  F.adjointref3_Tokens_l3 fu s ((j:Int),v,a,b,out)=some (match tokA s j with
   | .inl k=>.inl ((k:Int),v,a,b,out++[(⟨s.extract j k,(j:Int)⟩:SToken)])
   | .inr e=>.inr (.ret ([],(⟨(e:Int),(j:Int)⟩:SFault)))):=by
 obtain⟨c,h1,h2⟩:=ch_get hj
 have hd:decide ((j:Int)<(s.size:Int))=true:=by simp;omega
 have q5:(((c.toNat:Nat):Int)==35)=false:=by
  have:=nat_beq c.toNat 35
  rw[h2] at this
  rw[h2]
  exact this.trans (decide_eq_false hr)
 unfold F.adjointref3_Tokens_l3
 simp only[hd,cond_true,h1,Option.bind_some,isBlank_ok,h2,hb,cond_false,isLetter_ok,isDigit_ok]
 rw[h2] at q5
 simp only[q5,cond_false]
 have e1:(cond (isL (ch s j)) (some true) (some (isD (ch s j))))=some (isLD (ch s j)):=by
  unfold isLD;cases isL (ch s j) <;> rfl
 rw[e1]
 simp only[Option.bind_some]
 by_cases hLD:isLD (ch s j)=true
 ·have hk1:j<scanP s isLD j:=by
   have h1:=scanP_go hj hLD
   have h2:=scanP_ge (s:=s) (p:=isLD) (j+1)
   omega
  have hk2:scanP s isLD j≤s.size:=scanP_sz (by omega)
  have hl:=scan_loop1 hs (p:=isLD) (body:=F.adjointref3_Tokens_l2 fu s) (g:=fun k19=>(bidx s k19).bind fun c20=>
   (F.adjointref3_isLetter fu ((c20.toNat:Nat):Int)).bind fun (r21:Bool)=>
   cond r21 (some true) ((bidx s k19).bind fun c22=>
   (F.adjointref3_isDigit fu ((c22.toNat:Nat):Int)).bind fun (r23:Bool)=>
   some r23)) (fun i hi=>by
    obtain⟨c,g1,g2⟩:=ch_get hi
    simp only[g1,Option.bind_some,isLetter_ok,isDigit_ok,g2]
    unfold isLD
    cases isL (ch s i) <;> rfl) rfl fu j (by omega) (by omega)
  rw[hLD]
  simp only[cond_true,hl,Option.bind_some]
  rw[chk_pos ⟨by omega,by omega,by omega⟩]
  simp only[Option.bind_some,Int.toNat_natCast]
  generalize ht:s.extract j (scanP s isLD j)=t
  have ht1:t.size=scanP s isLD j-j:=by rw[←ht,ext_size hk2]
  have ht0:0<t.size:=by omega
  have htm:t.size≤Mx:=by omega
  obtain⟨d,g1,g2⟩:=ch_get ht0
  have g1:bidx t 0=some d:=g1
  have g3:d.toNat=ch s j:=by rw[g2,←ht,ext_ch hk2 (by omega)];rfl
  simp only[g1,Option.bind_some,isDigit_ok,g3]
  have hc:=app_ok (out:=out) (x:=(⟨t,(j:Int)⟩:SToken)) (by omega)
  have fin:∀k,some (Sum.inl (((scanP s isLD j:Nat):Int),v,a,b,out++[(⟨t,(j:Int)⟩:SToken)]))=some (match (Sum.inl (scanP s isLD j):Nat⊕Nat) with
   | .inl k=>(Sum.inl ((k:Int),v,a,b,out++[(⟨s.extract j k,(j:Int)⟩:SToken)]):(Int×List SToken×Int×Int×List SToken)⊕Ex (Int×Int×List SToken) (List SToken×SFault))
   | .inr e=>.inr (.ret ([],(⟨(e:Int),k⟩:SFault)))):=fun k=>by dsimp only;rw[ht]
  by_cases hD:isD (ch s j)=true
  ·have e0:tokA s j=(if numl t=true then(if Big<vl 0 t.data.toList then .inr 4 else .inl (scanP s isLD j)) else .inr 7):=by
    unfold tokA;rw[if_pos hLD,if_pos hD,ht]
   rw[e0,hD]
   simp only[cond_true,numeral_ok htm ht0 (show t.size<fu by omega),Option.bind_some]
   cases hn:numl t with
   | false=>rfl
   | true=>
    have ha:allB isD t=true:=by unfold numl at hn;rw[Bool.and_eq_true] at hn;exact hn.1
    obtain⟨w,hv⟩:=value_ok htm (show t.size<fu by omega) (all_D8 ha)
    simp only[Bool.not_true,cond_false,hv,Option.bind_some,Bool.not_not,if_true]
    by_cases hB:Big<vl 0 t.data.toList
    ·rw[decide_eq_true hB,if_pos hB];rfl
    ·rw[decide_eq_false hB,if_neg hB]
     simp only[cond_false,bindE,hc,Option.bind_some]
     exact fin 0
  ·have e0:tokA s j=.inl (scanP s isLD j):=by unfold tokA;rw[if_pos hLD,if_neg hD]
   rw[Bool.not_eq_true] at hD
   rw[e0,hD]
   simp only[cond_false,bindE,hc,Option.bind_some]
   exact fin 0
 ·have e0:tokA s j=(if isS (ch s j)=true then .inl (j+1) else .inr 7):=by unfold tokA;rw[if_neg hLD]
  rw[Bool.not_eq_true] at hLD
  rw[e0,hLD]
  simp only[cond_false,sign_ok h13,Option.bind_some]
  cases hS:isS (ch s j) with
  | false=>rfl
  | true=>
   have hw:=wr hj hs
   simp only[cond_true,hw,if_true]
   rw[chk_pos ⟨by omega,by omega,by omega⟩]
   have hc:=app_ok (out:=out) (x:=(⟨s.extract j (j+1),(j:Int)⟩:SToken)) (by omega)
   simp only[Option.bind_some,Int.toNat_natCast,bindE,hc]
theorem ref_blank {s:ByteArray}(hs:s.size≤Mx){f0:Nat}(hf0:s.size<f0){i j:Nat}(h:Bl s i j):∀(fu:Nat) (v:List SToken) (a b:Int) (out:List SToken) (e:Ex (Int×Int×List SToken) (List SToken×SFault)),i≤s.size→s.size-i<fu→
  (∀fu',s.size-j<fu'→loopF (F.adjointref3_Tokens_l3 f0 s) fu' ((j:Int),v,a,b,out)=some e)→loopF (F.adjointref3_Tokens_l3 f0 s) fu ((i:Int),v,a,b,out)=some e:=by
 induction h with
 | stop h=>intro fu v a b out e hi hf k;exact k fu hf
 | blank h hb k ih=>
  rename_i i j
  intro fu v a b out e hi hf kk
  obtain⟨f,rfl⟩:∃f,fu=f+1:=⟨fu-1,by omega⟩
  obtain⟨c,h1,h2⟩:=ch_get h
  have hd:decide ((i:Int)<(s.size:Int))=true:=by simp;omega
  have hw:=wr h hs
  have st:F.adjointref3_Tokens_l3 f0 s ((i:Int),v,a,b,out)=some (.inl (((i+1:Nat):Int),v,a,b,out)):=by
   unfold F.adjointref3_Tokens_l3
   simp only[hd,cond_true,h1,Option.bind_some,isBlank_ok,h2,hb,bindE,hw]
  simp only[loopF,st]
  exact ih f v a b out e (by omega) (by omega) kk
 | rem h hb k ih=>
  rename_i i j
  intro fu v a b out e hi hf kk
  obtain⟨f,rfl⟩:∃f,fu=f+1:=⟨fu-1,by omega⟩
  obtain⟨c,h1,h2⟩:=ch_get h
  have hd:decide ((i:Int)<(s.size:Int))=true:=by simp;omega
  have hg:=rem_gt h hb
  have hl:=scan_loop1 hs (p:=notNL) (body:=F.adjointref3_Tokens_l1 f0 s) (g:=fun i10=>(bidx s i10).bind fun c11=>
   some (((c11.toNat:Nat):Int) !=10)) (fun i hi=>by
    obtain⟨c,g1,g2⟩:=ch_get hi
    have:=nat_beq c.toNat 10
    rw[g2] at this
    have this:(((ch s i:Nat):Int)==10)=decide (ch s i=10):=this
    simp only[g1,Option.bind_some,g2,bne,this,notNL]) rfl f0 i (by omega) (by omega)
  have hB:isB 35=false:=rfl
  have st:F.adjointref3_Tokens_l3 f0 s ((i:Int),v,a,b,out)=some (.inl (((scanP s notNL i:Nat):Int),v,a,b,out)):=by
   unfold F.adjointref3_Tokens_l3
   simp only[hd,cond_true,h1,Option.bind_some,isBlank_ok,h2,hb,hB,cond_false]
   have:(((35:Nat):Int)==35)=true:=rfl
   simp only[this,cond_true,hl,Option.bind_some,bindE]
  simp only[loopF,st]
  exact ih f v a b out e (by omega) (by omega) kk
theorem ref_loop {s:ByteArray}(hs:s.size≤Mx){f0:Nat}(hf0:s.size<f0) (h13:13<f0) (v:List SToken) (a b:Int){j:Nat}{out:List SToken}{r:TRes}(h:Lex s j out r):(j<s.size→isB (ch s j)=false∧ch s j≠35)→out.length≤j→j≤s.size→
  ∃e,(e=.brk (a,b,r.1)∧r.2=⟨0,0⟩∨e=.ret r)∧∀fu,s.size-j<fu→loopF (F.adjointref3_Tokens_l3 f0 s) fu ((j:Int),v,a,b,out)=some e:=by
 induction h with
 | fin=>
  intro _ ho hj
  refine⟨_,.inl ⟨rfl,rfl⟩,fun fu hf=>?_⟩
  obtain⟨f,rfl⟩:∃f,fu=f+1:=⟨fu-1,by omega⟩
  have hd:decide ((s.size:Int)<(s.size:Int))=false:=by simp
  simp only[loopF,F.adjointref3_Tokens_l3,hd,cond_false]
 | bad h ht=>
  intro hb ho hj
  refine⟨_,.inr rfl,fun fu hf=>?_⟩
  obtain⟨f,rfl⟩:∃f,fu=f+1:=⟨fu-1,by omega⟩
  obtain⟨b1,b2⟩:=hb h
  have:=ref_step hs hf0 h13 h b1 b2 ho v a b
  rw[ht] at this
  simp only[loopF,this]
 | tok h ht hb' hl ih=>
  intro hb ho hj
  obtain⟨b1,b2⟩:=hb h
  have hk:=tokA_gt h ht
  have hf:=hb'.facts
  obtain⟨e,h1,h2⟩:=ih hf.2.2 (by simp;omega) (hf.2.1 hk.2)
  refine⟨e,h1,fun fu hfu=>?_⟩
  obtain⟨f,rfl⟩:∃f,fu=f+1:=⟨fu-1,by omega⟩
  have:=ref_step hs hf0 h13 h b1 b2 ho v a b
  rw[ht] at this
  simp only[loopF,this]
  exact ref_blank hs hf0 hb' f v a b _ e hk.2 (by omega) fun fu' h'=>h2 fu' h'
theorem ref_ok {s:ByteArray}(hs:s.size≤Mx){fu:Nat}(hf:s.size<fu) (h13:13<fu){j:Nat}{r:TRes}(hb:Bl s 0 j) (h:Lex s j [] r):F.adjointref3_Tokens fu s=some r:=by
 have hd:decide ((s.size:Int)>65536)=false:=by
  have:s.size≤65536:=hs
  exact decide_eq_false (by omega)
 have hf':=hb.facts
 obtain⟨e,h1,h2⟩:=ref_loop hs hf h13 [] 0 0 h hf'.2.2 (by simp) (hf'.2.1 (Nat.zero_le _))
 have h3:=ref_blank hs hf hb fu [] 0 0 [] e (Nat.zero_le _) (by omega) h2
 rw[show((0:Nat):Int)=0 from rfl] at h3
 unfold F.adjointref3_Tokens
 simp only[hd,cond_false,h3]
 rcases h1 with ⟨rfl,h4⟩ | rfl
 ·obtain⟨r1,r2⟩:=r
  cases h4
  rfl
 ·rfl
theorem tok_len {s:ByteArray}{j:Nat}{out:List SToken}{r:TRes}(h:Lex s j out r):out.length≤j→j≤s.size→r.1.length≤s.size:=by
 induction h with
 | fin=>exact fun h _=>h
 | bad h ht=>exact fun _ _=>Nat.zero_le _
 | tok h ht hb hl ih=>
  intro ho hj
  have hk:=tokA_gt h ht
  have hf:=hb.facts
  exact ih (by simp;omega) (hf.2.1 hk.2)
theorem str_refl (s:ByteArray):(s==s)=true:=by
 show(s.data==s.data)=true
 simp
end Go.DN
