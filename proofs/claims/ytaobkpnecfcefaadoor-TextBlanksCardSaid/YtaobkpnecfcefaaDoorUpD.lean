/-
  Text: tokens: the plain law: what both do at a place.
-/
import Derived.Test.YtaobkpnecfcefaaDoorUpC
set_option linter.unusedVariables false
set_option linter.unusedSimpArgs false
namespace Go.DN
open Go.AM
theorem ext_size {s:ByteArray}{i j:Nat}(hj:j≤s.size):(s.extract i j).size=j-i:=by
 rw[ByteArray.size_extract];omega
theorem ext_ch {s:ByteArray}{i j k:Nat}(hj:j≤s.size) (hk:i+k<j):ch (s.extract i j) k=ch s (i+k):=by
 have h1:k<(s.extract i j).size:=by rw[ext_size hj];omega
 have h2:i+k<s.size:=by omega
 unfold ch
 have e1:(s.extract i j)[k]?=some (s.extract i j)[k]:=getElem?_pos ..
 have e2:s[i+k]?=some s[i+k]:=getElem?_pos ..
 rw[e1,e2]
 have:(s.extract i j)[k]=s[i+k]:=ByteArray.getElem_extract ..
 simp only[this]
def tokA (s:ByteArray) (j:Nat):Nat⊕Nat:=
 if isLD (ch s j)=true then
  if isD (ch s j)=true then
   if numl (s.extract j (scanP s isLD j))=true then
    if Big<vl 0 (s.extract j (scanP s isLD j)).data.toList then .inr 4 else .inl (scanP s isLD j)
   else .inr 7
  else .inl (scanP s isLD j)
 else if isS (ch s j)=true then .inl (j+1) else .inr 7
theorem tokA_gt {s:ByteArray}{j k:Nat}(hj:j<s.size) (h:tokA s j=.inl k):j<k∧k≤s.size:=by
 have hsc:isLD (ch s j)=true→j<scanP s isLD j∧scanP s isLD j≤s.size:=fun hl=>by
  have h1:=scanP_go hj hl
  have h2:=scanP_ge (s:=s) (p:=isLD) (j+1)
  exact⟨by omega,scanP_sz (by omega)⟩
 unfold tokA at h
 split at h
 ·rename_i hl
  split at h
  ·split at h
   ·split at h
    ·cases h
    ·cases h;exact hsc hl
   ·cases h
  ·cases h;exact hsc hl
 ·split at h
  ·cases h;omega
  ·cases h
theorem tokA_err {s:ByteArray}{j e:Nat}(h:tokA s j=.inr e):e=7∨e=4:=by
 unfold tokA at h
 split at h
 ·split at h
  ·split at h
   ·split at h
    ·cases h;exact .inr rfl
    ·cases h
   ·cases h;exact .inl rfl
  ·cases h
 ·split at h
  ·cases h
  ·cases h;exact .inl rfl
theorem isD_LD {c:Nat}(h:isD c=true):isLD c=true:=by unfold isLD;rw[h,Bool.or_true]
theorem isD_L {c:Nat}(h:isD c=true):isL c=false:=by
 simp only[isD,decide_eq_true_eq] at h
 simp only[isL,Bool.or_eq_false_iff,decide_eq_false_iff_not];omega
theorem wh2 {s:ByteArray}(hs:s.size≤Mx){fu:Nat}(hf:s.size<fu){i:Nat}(hi:i≤s.size):F.text_lexer_while_2 fu s (i:Int)=some (s.extract i (scanP s isLD i),s,(scanP s isLD i:Int)):=by
 unfold F.text_lexer_while_2
 rw[scan_loop hs (body:=F.text_lexer_while_2_l1 fu) (f:=F.text_lexer_next_1 fu) (p:=isLD) (next1_ok fu) rfl fu i (by omega) hi]
 have h1:=scanP_ge (s:=s) (p:=isLD) i
 have h2:=scanP_sz (p:=isLD) hi
 simp only[Option.bind_some]
 rw[chk_pos ⟨by omega,by omega,by omega⟩]
 rfl
theorem wh3 {s:ByteArray}(hs:s.size≤Mx){fu:Nat}(hf:s.size<fu){i:Nat}(hi:i≤s.size):F.text_lexer_while_3 fu s (i:Int)=some (s.extract i (scanP s isLD i),s,(scanP s isLD i:Int)):=by
 unfold F.text_lexer_while_3
 rw[scan_loop hs (body:=F.text_lexer_while_3_l1 fu) (f:=F.text_lexer_next_2 fu) (p:=isLD) (next2_ok fu) rfl fu i (by omega) hi]
 have h1:=scanP_ge (s:=s) (p:=isLD) i
 have h2:=scanP_sz (p:=isLD) hi
 simp only[Option.bind_some]
 rw[chk_pos ⟨by omega,by omega,by omega⟩]
 rfl
theorem wh1 {s:ByteArray}(hs:s.size≤Mx){fu:Nat}(hf:s.size<fu){i:Nat}(hi:i≤s.size):F.text_lexer_while fu s (i:Int)=some (s.extract i (scanP s notNL i),s,(scanP s notNL i:Int)):=by
 unfold F.text_lexer_while
 rw[scan_loop hs (body:=F.text_lexer_while_l1 fu) (f:=F.text_lexer_blanks_1 fu) (p:=notNL) (blanks1_ok fu) rfl fu i (by omega) hi]
 have h1:=scanP_ge (s:=s) (p:=notNL) i
 have h2:=scanP_sz (p:=notNL) hi
 simp only[Option.bind_some]
 rw[chk_pos ⟨by omega,by omega,by omega⟩]
 rfl
theorem nonnil {t:ByteArray}(h0:0<t.size):t.data.toList≠[]:=fun h=>by
 have e:t.data.toList.length=t.size:=by rw[Array.length_toList];rfl
 rw[h] at e
 simp at e
 omega
theorem digits_ok {t:ByteArray}(ht:t.size≤Mx) (m2:Int) (r10:ByteArray) (r11:Int){fu:Nat}(hf:t.size<fu) (f0:Nat):
  loopF (F.text_lexer_next_l1 f0 m2 t r10 r11) fu 0=some (if allB isD t=true then .brk () else .ret (.inr ((7,m2),(r10,r11)))):=by
 exact all_loop ht (p:=isD) (fun i=>(i:Int)) _ _ (fun i hi=>by
  obtain⟨c,h1,h2⟩:=ch_get hi
  have hdc:decide ((i:Int)<(t.size:Int))=true:=by simp;omega
  simp only[F.text_lexer_next_l1,hdc,cond_true,h1,Option.bind_some,digit_ok,h2]
  rw[wr hi ht]
  cases isD (ch t i) <;> simp) (by simp[F.text_lexer_next_l1]) fu 0 (by omega) (by omega) (fun k hk=>by omega)
theorem next_ok {s:ByteArray}(hs:s.size≤Mx){fu:Nat}(hf:s.size<fu){j:Nat}(hj:j<s.size):
  ∃p,F.text_lexer_next fu s (j:Int)=some (match tokA s j with | .inl k=>.inl ((⟨s.extract j k,(j:Int)⟩:SToken),s,(k:Int)) | .inr e=>.inr (((e:Int),(j:Int)),p)):=by
 obtain⟨c,h1,h2⟩:=ch_get hj
 unfold F.text_lexer_next
 simp only[h1,Option.bind_some,letter_ok,digit_ok,h2]
 by_cases hL:isL (ch s j)=true
 ·have hLD:isLD (ch s j)=true:=by unfold isLD;rw[hL,Bool.true_or]
  have hD:¬isD (ch s j)=true:=fun h=>by rw[isD_L h] at hL;cases hL
  have e:tokA s j=.inl (scanP s isLD j):=by unfold tokA;rw[if_pos hLD,if_neg hD]
  rw[e,hL]
  simp only[cond_true,wh2 hs hf (Nat.le_of_lt hj),Option.bind_some]
  exact⟨(s,0),trivial⟩
 ·rw[Bool.not_eq_true] at hL
  simp only[hL,cond_false]
  by_cases hD:isD (ch s j)=true
  ·have hLD:=isD_LD hD
   have hk1:j<scanP s isLD j:=by
    have h1:=scanP_go hj hLD
    have h2:=scanP_ge (s:=s) (p:=isLD) (j+1)
    omega
   have hk2:scanP s isLD j≤s.size:=scanP_sz (by omega)
   simp only[hD,cond_true,wh3 hs hf (Nat.le_of_lt hj),Option.bind_some]
   generalize ht:s.extract j (scanP s isLD j)=t
   have ht1:t.size=scanP s isLD j-j:=by rw[←ht,ext_size hk2]
   have ht0:0<t.size:=by omega
   have htm:t.size≤Mx:=by omega
   have e0:tokA s j=(if numl t=true then(if Big<vl 0 t.data.toList then .inr 4 else .inl (scanP s isLD j)) else .inr 7):=by
    unfold tokA;rw[if_pos hLD,if_pos hD,ht]
   rw[digits_ok htm _ _ _ (by omega)]
   obtain⟨d,g1,g2⟩:=ch_get ht0
   have g1:bidx t 0=some d:=g1
   by_cases ha:allB isD t=true
   ·rw[if_pos ha]
    have e1:(((d.toNat:Nat):Int)==48)=decide (ch t 0=48):=by rw[←g2];exact nat_beq d.toNat 48
    have e2:decide ((t.size:Int)>1)=!decide (t.size=1):=by
     by_cases h:t.size=1
     ·rw[decide_eq_true h];exact decide_eq_false (by omega)
     ·rw[decide_eq_false h];exact decide_eq_true (by omega)
    have e3:numl t=(decide (t.size=1)||!decide (ch t 0=48)):=by unfold numl;rw[ha,Bool.true_and]
    simp only[bindE,g1,Option.bind_some,e1,e2]
    rw[e0,e3]
    have e4:cond (decide (ch t 0=48)) (some (!decide (t.size=1))) (some false)=some (!(decide (t.size=1)||!decide (ch t 0=48))):=by
     cases decide (ch t 0=48) <;> cases decide (t.size=1) <;> rfl
    rw[e4]
    cases decide (t.size=1)||!decide (ch t 0=48) with
    | false=>exact⟨_,rfl⟩
    | true=>
     obtain⟨v,hv⟩:=parseI_digits (s:=t) (by simpa[Mx] using htm) (all_D8 ha) (nonnil ht0)
     simp only[Option.bind_some,Bool.not_true,cond_false,hv,if_true]
     by_cases hB:Big<vl 0 t.data.toList
     ·rw[decide_eq_true hB,if_pos hB];exact⟨_,rfl⟩
     ·rw[decide_eq_false hB,if_neg hB]
      refine⟨(s,0),?_⟩
      show some (Sum.inl ((⟨t,(j:Int)⟩:SToken),s,((scanP s isLD j:Nat):Int)))=some (Sum.inl ((⟨s.extract j (scanP s isLD j),(j:Int)⟩:SToken),s,((scanP s isLD j:Nat):Int)))
      rw[ht]
   ·rw[if_neg ha]
    have:numl t=false:=by unfold numl;rw[Bool.not_eq_true] at ha;rw[ha,Bool.false_and]
    rw[e0,this]
    exact⟨_,rfl⟩
  ·rw[Bool.not_eq_true] at hD
   simp only[hD,cond_false]
   have hLD:¬isLD (ch s j)=true:=by unfold isLD;rw[hL,hD];exact fun h=>by cases h
   have e0:tokA s j=(if isS (ch s j)=true then .inl (j+1) else .inr 7):=by unfold tokA;rw[if_neg hLD]
   rw[e0]
   have hw:=wr hj hs
   have hck:chk ((0:Int)≤(j:Int)∧(j:Int)≤((j+1:Nat):Int)∧((j+1:Nat):Int)≤(s.size:Int))=some ():=chk_pos ⟨by omega,by omega,by omega⟩
   generalize ch s j=c at hL hD
   by_cases hS:isS c=true
   ·rw[if_pos hS]
    refine⟨(s,0),?_⟩
    simp only[hw,hck,Option.bind_some]
    simp only[isS,List.contains_iff_mem,List.mem_cons,List.not_mem_nil,or_false] at hS
    rcases hS with h | h | h | h | h | h | h | h | h | h | h | h | h <;> subst h <;> rfl
   ·rw[if_neg hS]
    refine⟨(s,(j:Int)),?_⟩
    simp only[isS,List.contains_iff_mem,List.mem_cons,List.not_mem_nil,or_false,not_or] at hS
    have q:∀k:Nat,c≠k→((c:Int)==(k:Int))=false:=fun k h=>by rw[nat_beq];exact decide_eq_false h
    have q1:((c:Int)==40)=false:=q 40 hS.1
    have q2:((c:Int)==41)=false:=q 41 hS.2.1
    have q3:((c:Int)==91)=false:=q 91 hS.2.2.1
    have q4:((c:Int)==93)=false:=q 93 hS.2.2.2.1
    have q5:((c:Int)==123)=false:=q 123 hS.2.2.2.2.1
    have q6:((c:Int)==125)=false:=q 125 hS.2.2.2.2.2.1
    have q7:((c:Int)==44)=false:=q 44 hS.2.2.2.2.2.2.1
    have q8:((c:Int)==58)=false:=q 58 hS.2.2.2.2.2.2.2.1
    have q9:((c:Int)==61)=false:=q 61 hS.2.2.2.2.2.2.2.2.1
    have q10:((c:Int)==43)=false:=q 43 hS.2.2.2.2.2.2.2.2.2.1
    have q11:((c:Int)==45)=false:=q 45 hS.2.2.2.2.2.2.2.2.2.2.1
    have q12:((c:Int)==42)=false:=q 42 hS.2.2.2.2.2.2.2.2.2.2.2.1
    have q13:((c:Int)==59)=false:=q 59 hS.2.2.2.2.2.2.2.2.2.2.2.2
    simp only[q1,q2,q3,q4,q5,q6,q7,q8,q9,q10,q11,q12,q13,cond_false,Option.bind_some]
    rfl
end Go.DN
