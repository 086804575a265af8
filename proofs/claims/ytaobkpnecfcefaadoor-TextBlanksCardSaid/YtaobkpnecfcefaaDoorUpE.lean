/-
  Text: tokens: the plain law: both go the same way.
-/
import Derived.Test.YtaobkpnecfcefaaDoorUpD
set_option linter.unusedVariables false
set_option linter.unusedSimpArgs false
namespace Go.DN
open Go.AM
inductive Bl (s:ByteArray):Nat→Nat→Prop
 | stop {i:Nat}(h:i<s.size→isB (ch s i)=false∧ch s i≠35):Bl s i i
 | blank {i j:Nat}(h:i<s.size) (hb:isB (ch s i)=true) (k:Bl s (i+1) j):Bl s i j
 | rem {i j:Nat}(h:i<s.size) (hb:ch s i=35) (k:Bl s (scanP s notNL i) j):Bl s i j
theorem rem_gt {s:ByteArray}{i:Nat}(h:i<s.size) (hb:ch s i=35):i<scanP s notNL i∧scanP s notNL i≤s.size:=by
 have h1:=scanP_go (p:=notNL) h (by rw[hb];rfl)
 have h2:=scanP_ge (s:=s) (p:=notNL) (i+1)
 exact⟨by omega,scanP_sz (by omega)⟩
theorem Bl.tot {s:ByteArray}:∀(m i:Nat),s.size-i≤m→i≤s.size→∃j,Bl s i j
 | 0,i,hm,hi=>⟨i,.stop fun h=>by omega⟩
 | m+1,i,hm,hi=>by
  by_cases h:i<s.size
  ·by_cases hb:isB (ch s i)=true
   ·obtain⟨j,hj⟩:=Bl.tot (s:=s) m (i+1) (by omega) (by omega);exact⟨j,.blank h hb hj⟩
   ·by_cases hr:ch s i=35
    ·have:=rem_gt h hr
     obtain⟨j,hj⟩:=Bl.tot (s:=s) m (scanP s notNL i) (by omega) (by omega);exact⟨j,.rem h hr hj⟩
    ·exact⟨i,.stop fun _=>⟨by simpa using hb,hr⟩⟩
  ·exact⟨i,.stop fun h'=>absurd h' h⟩
theorem Bl.facts {s:ByteArray}{i j:Nat}(h:Bl s i j):i≤j∧(i≤s.size→j≤s.size)∧(j<s.size→isB (ch s j)=false∧ch s j≠35):=by
 induction h with
 | stop h=>exact⟨Nat.le_refl _,id,h⟩
 | blank h hb k ih=>exact⟨by omega,fun _=>ih.2.1 (by omega),ih.2.2⟩
 | rem h hb k ih=>have:=rem_gt h hb;exact⟨by omega,fun _=>ih.2.1 (by omega),ih.2.2⟩
abbrev TRes:=List SToken×SFault
inductive Lex (s:ByteArray):Nat→List SToken→TRes→Prop
 | fin {out:List SToken}:Lex s s.size out (out,⟨0,0⟩)
 | bad {j e:Nat}{out:List SToken}(h:j<s.size) (ht:tokA s j=.inr e):Lex s j out ([],⟨(e:Int),(j:Int)⟩)
 | tok {j k j':Nat}{out:List SToken}{r:TRes}(h:j<s.size) (ht:tokA s j=.inl k) (hb:Bl s k j') (hl:Lex s j' (out++[(⟨s.extract j k,(j:Int)⟩:SToken)]) r):Lex s j out r
theorem Lex.tot {s:ByteArray}:∀(m j:Nat) (out:List SToken),s.size-j≤m→j≤s.size→∃r,Lex s j out r
 | 0,j,out,hm,hj=>by
  obtain rfl:j=s.size:=by omega
  exact⟨_,.fin⟩
 | m+1,j,out,hm,hj=>by
  by_cases h:j<s.size
  ·cases ht:tokA s j with
   | inr e=>exact⟨_,.bad h ht⟩
   | inl k=>
    have hk:=tokA_gt h ht
    obtain⟨j',hb⟩:=Bl.tot (s.size-k) k (Nat.le_refl _) hk.2
    have hf:=hb.facts
    obtain⟨r,hr⟩:=Lex.tot m j' (out++[(⟨s.extract j k,(j:Int)⟩:SToken)]) (by omega) (hf.2.1 hk.2)
    exact⟨r,.tok h ht hb hr⟩
  ·obtain rfl:j=s.size:=by omega
   exact⟨_,.fin⟩
theorem blanks_loop {s:ByteArray}(hs:s.size≤Mx){f0:Nat}(hf0:s.size<f0){i j:Nat}(h:Bl s i j):∀fu:Nat,i≤s.size→s.size-i<fu→
  ∃e,loopF (F.text_lexer_blanks_l1 f0) fu (s,(i:Int))=some e∧(e=.brk (s,(j:Int))∨e=.ret (s,(j:Int))):=by
 induction h with
 | stop h=>
  rename_i i
  intro fu hi hf
  obtain⟨f,rfl⟩:∃f,fu=f+1:=⟨fu-1,by omega⟩
  by_cases hlt:i<s.size
  ·obtain⟨hb,hr⟩:=h hlt
   obtain⟨c,h1,h2⟩:=ch_get hlt
   have hd:decide ((i:Int)<(s.size:Int))=true:=by simp;omega
   simp only[isB,Bool.or_eq_false_iff,decide_eq_false_iff_not] at hb
   have q:∀k:Nat,ch s i≠k→(((c.toNat:Nat):Int)==(k:Int))=false:=fun k h=>by rw[nat_beq,h2];exact decide_eq_false h
   have q1:(((c.toNat:Nat):Int)==32)=false:=q 32 hb.1
   have q2:(((c.toNat:Nat):Int)==9)=false:=q 9 hb.2.1
   have q3:(((c.toNat:Nat):Int)==10)=false:=q 10 hb.2.2.1
   have q4:(((c.toNat:Nat):Int)==13)=false:=q 13 hb.2.2.2
   have q5:(((c.toNat:Nat):Int)==35)=false:=q 35 hr
   refine⟨.ret (s,(i:Int)),?_,.inr rfl⟩
   simp only[loopF,F.text_lexer_blanks_l1,hd,cond_true,h1,Option.bind_some,q1,q2,q3,q4,q5,cond_false,bindE]
  ·have hd:decide ((i:Int)<(s.size:Int))=false:=by simp;omega
   refine⟨.brk (s,(i:Int)),?_,.inl rfl⟩
   simp only[loopF,F.text_lexer_blanks_l1,hd,cond_false]
 | blank h hb k ih=>
  rename_i i j
  intro fu hi hf
  obtain⟨f,rfl⟩:∃f,fu=f+1:=⟨fu-1,by omega⟩
  obtain⟨c,h1,h2⟩:=ch_get h
  have hd:decide ((i:Int)<(s.size:Int))=true:=by simp;omega
  have hw:=wr h hs
  obtain⟨e,h3,h4⟩:=ih f (by omega) (by omega)
  refine⟨e,?_,h4⟩
  have q:∀k:Nat,(((c.toNat:Nat):Int)==(k:Int))=decide (ch s i=k):=fun k=>by rw[nat_beq,h2]
  have q1:(((c.toNat:Nat):Int)==32)=decide (ch s i=32):=q 32
  have q2:(((c.toNat:Nat):Int)==9)=decide (ch s i=9):=q 9
  have q3:(((c.toNat:Nat):Int)==10)=decide (ch s i=10):=q 10
  have q4:(((c.toNat:Nat):Int)==13)=decide (ch s i=13):=q 13
  have big:(cond (decide (ch s i=32)) (some (decide (ch s i=32))) ((cond (decide (ch s i=9)) (some (decide (ch s i=9))) ((cond (decide (ch s i=10)) (some (decide (ch s i=10))) (some (decide (ch s i=13)))).bind fun (v6:Bool)=>some v6)).bind fun (v7:Bool)=>some v7))=some true:=by
   simp only[isB] at hb
   revert hb
   cases decide (ch s i=32) <;> cases decide (ch s i=9) <;> cases decide (ch s i=10) <;> cases decide (ch s i=13) <;> intro hb <;> first | rfl | cases hb
  simp only[loopF,F.text_lexer_blanks_l1,hd,cond_true,h1,Option.bind_some,q1,q2,q3,q4]
  rw[big]
  simp only[Option.bind_some,cond_true,bindE,hw]
  exact h3
 | rem h hb k ih=>
  rename_i i j
  intro fu hi hf
  obtain⟨f,rfl⟩:∃f,fu=f+1:=⟨fu-1,by omega⟩
  obtain⟨c,h1,h2⟩:=ch_get h
  have hd:decide ((i:Int)<(s.size:Int))=true:=by simp;omega
  have hg:=rem_gt h hb
  obtain⟨e,h3,h4⟩:=ih f (by omega) (by omega)
  refine⟨e,?_,h4⟩
  have hc:c.toNat=35:=h2.trans hb
  simp only[loopF,F.text_lexer_blanks_l1,hd,cond_true,h1,Option.bind_some,hc]
  simp only[wh1 hs hf0 hi,Option.bind_some]
  exact h3
theorem blanks_ok {s:ByteArray}(hs:s.size≤Mx){fu:Nat}(hf:s.size<fu){i j:Nat}(hi:i≤s.size) (h:Bl s i j):F.text_lexer_blanks fu s (i:Int)=some (s,(j:Int)):=by
 unfold F.text_lexer_blanks
 obtain⟨e,h1,h2⟩:=blanks_loop hs hf h fu hi (by omega)
 rw[h1]
 rcases h2 with rfl | rfl <;> rfl
theorem app_ok {out:List SToken}{x:SToken}(h:out.length≤Mx):chk (out.length+[x].length≤maxLen∧(out.length+[x].length)*24≤140737488355328)=some ():=by
 refine chk_pos ⟨?_,?_⟩
 ·simp only[List.length_singleton,maxLen,Mx] at *;omega
 ·simp only[List.length_singleton,Mx] at *;omega
theorem tokens1 (fu:Nat) (e a:Int) (out:List SToken):F.text_Tokens_1 fu e a out=some (e,a,if e=0 then out else[]):=by
 unfold F.text_Tokens_1
 by_cases h:e=0
 ·subst h;rfl
 ·have:(e !=0)=true:=by simpa using h
  rw[this,if_neg h];rfl
theorem text_loop {s:ByteArray}(hs:s.size≤Mx){f0:Nat}(hf0:s.size<f0){j:Nat}{out:List SToken}{r:TRes}(h:Lex s j out r):∀fu:Nat,j≤s.size→s.size-j<fu→out.length≤j→
  ∃e,loopF (F.text_Tokens_l1 f0 s) fu (s,(j:Int),out)=some e∧((∃a b,e=.brk (a,b,r.1)∧r.2=⟨0,0⟩)∨e=.ret (.inl r)):=by
 induction h with
 | fin=>
  intro fu hj hf ho
  obtain⟨f,rfl⟩:∃f,fu=f+1:=⟨fu-1,by omega⟩
  have hd:decide ((s.size:Int)<(s.size:Int))=false:=by simp
  refine⟨_,?_,.inl ⟨s,(s.size:Int),rfl,rfl⟩⟩
  simp only[loopF,F.text_Tokens_l1,hd,cond_false]
 | bad h ht=>
  rename_i j e out
  intro fu hj hf ho
  obtain⟨f,rfl⟩:∃f,fu=f+1:=⟨fu-1,by omega⟩
  have hd:decide ((j:Int)<(s.size:Int))=true:=by simp;omega
  obtain⟨p,hp⟩:=next_ok hs hf0 h
  rw[ht] at hp
  refine⟨_,?_,.inr rfl⟩
  have he:(e:Int)≠0:=by rcases tokA_err ht with rfl | rfl <;> decide
  simp only[loopF,F.text_Tokens_l1,hd,cond_true,amb2_self,amb_self,bindP,hp,Option.bind_some,tokens1,if_neg he]
 | tok h ht hb hl ih=>
  rename_i j k j' out r
  intro fu hj hf ho
  obtain⟨f,rfl⟩:∃f,fu=f+1:=⟨fu-1,by omega⟩
  have hd:decide ((j:Int)<(s.size:Int))=true:=by simp;omega
  obtain⟨p,hp⟩:=next_ok hs hf0 h
  rw[ht] at hp
  have hk:=tokA_gt h ht
  have hf:=hb.facts
  obtain⟨e,h1,h2⟩:=ih f (hf.2.1 hk.2) (by omega) (by simp;omega)
  refine⟨e,?_,h2⟩
  have hc:=app_ok (out:=out) (x:=(⟨s.extract j k,(j:Int)⟩:SToken)) (by omega)
  simp only[loopF,F.text_Tokens_l1,hd,cond_true,amb2_self,amb_self,bindP,hp,Option.bind_some,hc,blanks_ok hs hf0 hk.2 hb]
  exact h1
theorem text_ok {s:ByteArray}(hs:s.size≤Mx){fu:Nat}(hf:s.size<fu){j:Nat}{r:TRes}(hb:Bl s 0 j) (h:Lex s j [] r):F.text_Tokens fu s=some r:=by
 have hd:decide ((s.size:Int)>65536)=false:=by
  have:s.size≤65536:=hs
  exact decide_eq_false (by omega)
 have hb0:=blanks_ok hs hf (Nat.zero_le _) hb
 rw[show((0:Nat):Int)=0 from rfl] at hb0
 have hf':=hb.facts
 obtain⟨e,h1,h2⟩:=text_loop hs hf h fu (hf'.2.1 (Nat.zero_le _)) (by omega) (by simp)
 unfold F.text_Tokens unP F.text_Tokens_p
 simp only[hd,cond_false,hb0,Option.bind_some,h1]
 rcases h2 with ⟨a,b,rfl,h3⟩ | rfl
 ·obtain⟨r1,r2⟩:=r
  cases h3
  simp only[bindE,amb2_self,amb_self,Option.bind_some,tokens1]
  rfl
 ·rfl
theorem tok_len {s:ByteArray}{j:Nat}{out:List SToken}{r:TRes}(h:Lex s j out r):out.length≤j→j≤s.size→r.1.length≤s.size:=by
 induction h with
 | fin=>exact fun h _=>h
 | bad h ht=>exact fun _ _=>Nat.zero_le _
 | tok h ht hb hl ih=>
  intro ho hj
  have hk:=tokA_gt h ht
  have hf:=hb.facts
  exact ih (by simp;omega) (hf.2.1 hk.2)
theorem str_refl (s:ByteArray):(s==s)=true:=by
 show(s.data==s.data)=true
 simp
end Go.DN
