/-
  Text, reading: the program's part: expressions, functions, programs.
-/
import Derived.Test.YtaobkpnecfcefaaDoorUqD
set_option linter.unusedVariables false
set_option linter.unusedSimpArgs false
set_option linter.unusedSectionVars false
namespace Go.DN
open Go.AM
theorem dec64:∀d,d<65→IntKind.wrap .i64 (((d+1:Nat):Int)-1)=(d:Int):=by decide
variable {X:Toks}{f0:Nat}
section
variable {d:Nat}(hd:d<64){self:(List SToken)→Int→Int→Option (Rp STree)}(hf:Mx<f0){S:Nat→R STree}(hP:∀i,i≤X.L.length→Pr X ((d+1:Nat):Int) (S i) (self (X.L.drop i) X.en ((d+1:Nat):Int))) (hG:∀i,i≤X.L.length→Gd X TOk i (S i))
include hd hf hP hG
theorem exprB_p (i:Nat) (hi:i≤X.L.length):Pr X (d:Int) (pExprB X S i) (F.text_reader_expr_b self f0 (X.L.drop i) X.en (d:Int)):=by
 have hw:IntKind.wrap .i64 ((d:Int)+1)=((d+1:Nat):Int):=wr (n:=65) (by omega) (by simp[Mx])
 have hw1:=dec64 d (by omega)
 have hc:decide (((d+1:Nat):Int)>64)=false:=decide_eq_false (by omega)
 simp only[F.text_reader_expr_b,amb2_self,amb_self,hw,hc,cond_false]
 rw[is_ok f0 i ((d+1:Nat):Int) (w:=ByteArray.mk #[108,101,116]) (by decide)]
 unfold pExprB
 simp only[Option.bind_some]
 cases h1:X.is i (ByteArray.mk #[108,101,116]) with
 | true=>
  have h2:=is_lt (by decide) h1
  simp only[cond_true,if_pos]
  unfold pBound
  generalize i+1=i at h2⊢
  have hn:=name_ok (X:=X) hf i ((d+1:Nat):Int)
  revert hn
  cases pName X i with
  | bad e p=>rintro⟨he,l,hn⟩;rw[hn];simp only[bindP,Option.bind_some,F.text_reader_expr_1,hw1,R.bind_bad];exact⟨he,l,rfl⟩
  | ok s i=>
   rintro⟨h2,hn⟩
   rw[hn]
   simp only[bindP,Option.bind_some,R.bind_ok]
   have hn:=must_ok (X:=X) f0 i ((d+1:Nat):Int) (w:=ByteArray.mk #[61]) (by decide)
   revert hn
   cases pMust X (ByteArray.mk #[61]) i with
   | bad e p=>rintro⟨he,l,hn⟩;rw[hn];simp only[bindP,Option.bind_some,F.text_reader_expr_1,hw1,R.bind_bad];exact⟨he,l,rfl⟩
   | ok _ i=>
    rintro⟨h2,hn⟩
    rw[hn]
    simp only[Option.bind_some,R.bind_ok]
    have hn:=hP i h2
    revert hn
    cases S i with
    | bad e p=>rintro⟨he,l,hn⟩;rw[hn];simp only[bindP,Option.bind_some,F.text_reader_expr_1,hw1,R.bind_bad];exact⟨he,l,rfl⟩
    | ok a i=>
     rintro⟨h2,hn⟩
     rw[hn]
     simp only[Option.bind_some,R.bind_ok,app_chk (show([]:List STree).length≤Mx from Nat.zero_le _) (show 112≤1000 by decide)]
     have hn:=must_ok (X:=X) f0 i ((d+1:Nat):Int) (w:=ByteArray.mk #[105,110]) (by decide)
     revert hn
     cases pMust X (ByteArray.mk #[105,110]) i with
     | bad e p=>rintro⟨he,l,hn⟩;rw[hn];simp only[bindP,Option.bind_some,F.text_reader_expr_1,hw1,R.bind_bad];exact⟨he,l,rfl⟩
     | ok _ i=>
      rintro⟨h2,hn⟩
      rw[hn]
      simp only[Option.bind_some,R.bind_ok]
      have hn:=hP i h2
      revert hn
      cases S i with
      | bad e p=>rintro⟨he,l,hn⟩;rw[hn];simp only[bindP,Option.bind_some,F.text_reader_expr_1,hw1,R.bind_bad];exact⟨he,l,rfl⟩
      | ok b i=>
       rintro⟨h2,hn⟩
       rw[hn]
       have hl:(([]:List STree)++[a]).length≤Mx:=by simp[Mx]
       simp only[Option.bind_some,R.bind_ok,app_chk hl (show 112≤1000 by decide),F.text_reader_expr_1,hw1]
       exact⟨h2,rfl⟩
 | false=>
  simp only[cond_false,if_neg (show ¬(false=true) by decide)]
  rw[is_ok f0 i ((d+1:Nat):Int) (w:=ByteArray.mk #[114,101,112,101,97,116]) (by decide)]
  simp only[Option.bind_some]
  cases h3:X.is i (ByteArray.mk #[114,101,112,101,97,116]) with
  | true=>
   have h2:=is_lt (by decide) h3
   simp only[cond_true,if_pos]
   have hn:=number_ok (X:=X) f0 (i+1) ((d+1:Nat):Int)
   revert hn
   cases pNumber X (i+1) with
   | bad e p=>rintro⟨he,l,hn⟩;rw[hn];simp only[bindP,Option.bind_some,F.text_reader_expr_1,hw1,R.bind_bad];exact⟨he,l,rfl⟩
   | ok n i=>
    rintro⟨h2,hn⟩
    rw[hn]
    simp only[bindP,Option.bind_some,R.bind_ok]
    unfold pBound
    have hn:=name_ok (X:=X) hf i ((d+1:Nat):Int)
    revert hn
    cases pName X i with
    | bad e p=>rintro⟨he,l,hn⟩;rw[hn];simp only[bindP,Option.bind_some,F.text_reader_expr_1,hw1,R.bind_bad];exact⟨he,l,rfl⟩
    | ok s i=>
     rintro⟨h2,hn⟩
     rw[hn]
     simp only[bindP,Option.bind_some,R.bind_ok]
     have hn:=must_ok (X:=X) f0 i ((d+1:Nat):Int) (w:=ByteArray.mk #[61]) (by decide)
     revert hn
     cases pMust X (ByteArray.mk #[61]) i with
     | bad e p=>rintro⟨he,l,hn⟩;rw[hn];simp only[bindP,Option.bind_some,F.text_reader_expr_1,hw1,R.bind_bad];exact⟨he,l,rfl⟩
     | ok _ i=>
      rintro⟨h2,hn⟩
      rw[hn]
      simp only[Option.bind_some,R.bind_ok]
      have hn:=hP i h2
      revert hn
      cases S i with
      | bad e p=>rintro⟨he,l,hn⟩;rw[hn];simp only[bindP,Option.bind_some,F.text_reader_expr_1,hw1,R.bind_bad];exact⟨he,l,rfl⟩
      | ok a i=>
       rintro⟨h2,hn⟩
       rw[hn]
       simp only[Option.bind_some,R.bind_ok,app_chk (show([]:List STree).length≤Mx from Nat.zero_le _) (show 112≤1000 by decide)]
       have hn:=must_ok (X:=X) f0 i ((d+1:Nat):Int) (w:=ByteArray.mk #[119,105,116,104]) (by decide)
       revert hn
       cases pMust X (ByteArray.mk #[119,105,116,104]) i with
       | bad e p=>rintro⟨he,l,hn⟩;rw[hn];simp only[bindP,Option.bind_some,F.text_reader_expr_1,hw1,R.bind_bad];exact⟨he,l,rfl⟩
       | ok _ i=>
        rintro⟨h2,hn⟩
        rw[hn]
        simp only[Option.bind_some,R.bind_ok]
        have hn:=hP i h2
        revert hn
        cases S i with
        | bad e p=>rintro⟨he,l,hn⟩;rw[hn];simp only[bindP,Option.bind_some,F.text_reader_expr_1,hw1,R.bind_bad];exact⟨he,l,rfl⟩
        | ok b i=>
         rintro⟨h2,hn⟩
         rw[hn]
         have hl:(([]:List STree)++[a]).length≤Mx:=by simp[Mx]
         simp only[Option.bind_some,R.bind_ok,app_chk hl (show 112≤1000 by decide),F.text_reader_expr_1,hw1]
         exact⟨h2,rfl⟩
  | false=>
   have hp:=ch6_p hf hP hG i hi
   have hx:(pSum X S i)=(pProd X S i).bind fun t i=>pChainL X (pProd X S) (isPM X) 64 t i:=rfl
   rw[←hx] at hp
   have hb:Nat.beq (List.length [ByteArray.mk #[43],ByteArray.mk #[45]]) (List.length [ByteArray.mk #[43],ByteArray.mk #[45]])=true:=rfl
   simp only[cond_false,if_neg (show ¬(false=true) by decide)]
   revert hp
   cases pSum X S i with
   | ok a j=>rintro⟨hj,hp⟩;rw[hp];simp only[bindP,Option.bind_some,hb,cond_true,eta_tree,F.text_reader_expr_1,hw1];exact⟨hj,rfl⟩
   | bad e p=>rintro⟨he,l,hp⟩;rw[hp];simp only[bindP,Option.bind_some,hb,cond_true,F.text_reader_expr_1,hw1];exact⟨he,l,rfl⟩
end
theorem expr_p:∀(r fu:Nat),r≤64→Mx+r<fu→∀i,i≤X.L.length→Pr X ((64-r:Nat):Int) (pE X r i) (F.text_reader_expr fu (X.L.drop i) X.en ((64-r:Nat):Int))
 | 0,fu,_,hf,i,hi=>by
  obtain⟨f,rfl⟩:∃f,fu=f+1:=⟨fu-1,by omega⟩
  simp only[F.text_reader_expr,F.text_reader_expr_b]
  have hw:IntKind.wrap .i64 (((64-0:Nat):Int)+1)=65:=by decide
  have hc:decide ((65:Int)>64)=true:=by decide
  have hw1:IntKind.wrap .i64 (65-1)=((64-0:Nat):Int):=by decide
  rw[hw,hc]
  simp only[cond_true,at_ok,Option.bind_some,F.text_reader_expr_1,hw1]
  exact⟨by decide,_,rfl⟩
 | r+1,fu,hr,hf,i,hi=>by
  obtain⟨f,rfl⟩:∃f,fu=f+1:=⟨fu-1,by omega⟩
  have e:64-r=(64-(r+1))+1:=by omega
  have hP:=expr_p r f (by omega) (by omega)
  rw[e] at hP
  exact exprB_p (X:=X) (d:=64-(r+1)) (by omega) (self:=F.text_reader_expr f) (f0:=f+1) (by omega) hP (fun i hi=>pE_gd r i hi) i hi
section
variable {d:Int}(hf:Mx<f0)
include hf
theorem given_p {c1:ByteArray}{c2:Int}{c3:ByteArray}{c4:Int}{c5:Bool}{c6:List SDim}{c7:List (List Int)}{c8:List STree}:∀(m i:Nat) (acc:List SGiven) (fu:Nat),i≤X.L.length→X.L.length-i<m→X.L.length-i<fu→acc.length+(X.L.length-i)≤Mx→
  Lp X d (fun a j=>(X.L.drop j,X.en,d,c1,c2,c3,c4,c5,c6,c7,c8,a)) (pGivenL X m i acc) (loopF (F.text_reader_function_l1 f0) fu (X.L.drop i,X.en,d,c1,c2,c3,c4,c5,c6,c7,c8,acc))
 | 0,i,acc,fu,_,h,_,_=>by omega
 | m+1,i,acc,fu,hi,h,h2,h3=>by
  obtain⟨f,rfl⟩:∃f,fu=f+1:=⟨fu-1,by omega⟩
  rw[loopF_step]
  simp only[F.text_reader_function_l1]
  rw[peek_ok]
  unfold pGivenL
  simp only[Option.bind_some]
  have hx:((X.tx i).toList==(ByteArray.mk #[41]).toList)=X.is i (ByteArray.mk #[41]):=rfl
  rw[hx]
  cases h4:X.is i (ByteArray.mk #[41]) with
  | true=>exact rfl
  | false=>
   simp only[Bool.not_false,cond_true,if_neg (show ¬(false=true) by decide)]
   have go:∀j,i≤j→j≤X.L.length→Lp X d (fun a j=>(X.L.drop j,X.en,d,c1,c2,c3,c4,c5,c6,c7,c8,a)) ((pName X j).bind fun s i=>(pMust X (ByteArray.mk #[58]) i).bind fun _ i=>(pShape X i).bind fun ds i=>pGivenL X m i (acc++[⟨s,ds⟩])) (loopStep (F.text_reader_function_l1 f0) f (bindP (F.text_reader_name f0 (X.L.drop j) X.en d)
    (fun ((r38,r39,r40,r41):ByteArray×(List SToken)×Int×Int)=>
     bindP (F.text_reader_must f0 (ByteArray.mk #[58]) r39 r40 r41)
      (fun ((r42,r43,r44):(List SToken)×Int×Int)=>
       bindP (F.text_reader_shape f0 r42 r43 r44)
        (fun ((r45,r46,r47,r48):(List SDim)×(List SToken)×Int×Int)=>
         (chk (acc.length+[(⟨r38,r45⟩:SGiven)].length≤maxLen∧(acc.length+[(⟨r38,r45⟩:SGiven)].length)*40≤140737488355328)).bind fun _=>
         some (.inl (r46,r47,r48,c1,c2,c3,c4,c5,c6,c7,c8,acc++[(⟨r38,r45⟩:SGiven)])))
        (fun ((e49,e50),(r51,r52,r53))=>
         some (.inr (.ret (.inr ((e49,e50),(r51,r52,r53)))))))
      (fun ((e54,e55),(r56,r57,r58))=>
       some (.inr (.ret (.inr ((e54,e55),(r56,r57,r58)))))))
    (fun ((e59,e60),(r61,r62,r63))=>
     some (.inr (.ret (.inr ((e59,e60),(r61,r62,r63)))))))):=by
    intro j h5 h6
    have hn:=name_ok (X:=X) hf j d
    have hg:=pName_gd (X:=X) j
    revert hn hg
    cases pName X j with
    | bad e p=>rintro⟨he,l,hn⟩ hg;rw[hn];exact⟨l,rfl⟩
    | ok s j1=>
     rintro⟨hj,hn⟩ hg
     have hg:=hg.1
     rw[hn]
     simp only[bindP,Option.bind_some,R.bind_ok]
     have hn:=must_ok (X:=X) f0 j1 d (w:=ByteArray.mk #[58]) (by decide)
     have hg2:=pMust_gd (X:=X) (w:=ByteArray.mk #[58]) (by decide) j1
     revert hn hg2
     cases pMust X (ByteArray.mk #[58]) j1 with
     | bad e p=>rintro⟨he,l,hn⟩ hg;rw[hn];exact⟨l,rfl⟩
     | ok _ j2=>
      rintro⟨hj,hn⟩ hg2
      have hg2:=hg2.1
      rw[hn]
      simp only[Option.bind_some,R.bind_ok]
      have hn:=shape_p (X:=X) (d:=d) hf j2
      have hg3:=pShape_gd (X:=X) j2
      revert hn hg3
      cases pShape X j2 with
      | bad e p=>rintro⟨he,l,hn⟩ hg;rw[hn];exact⟨l,rfl⟩
      | ok ds j3=>
       rintro⟨hj,hn⟩ hg3
       have hg3:=hg3.1
       rw[hn]
       simp only[Option.bind_some,app_chk (show acc.length≤Mx by omega) (show 40≤1000 by decide),step_inl]
       exact given_p m j3 _ f hj (by omega) (by omega) (by simp;omega)
   by_cases h5:0<acc.length
   ·have hd:decide ((acc.length:Int)>0)=true:=decide_eq_true (by omega)
    have hm:=must_ok (X:=X) f0 i d (w:=ByteArray.mk #[44]) (by decide)
    have hg:=pMust_gd (X:=X) (w:=ByteArray.mk #[44]) (by decide) i
    rw[hd,if_pos h5]
    revert hm hg
    cases pMust X (ByteArray.mk #[44]) i with
    | bad e p=>
     rintro⟨he,l,hn⟩ hg
     rw[hn]
     exact⟨l,rfl⟩
    | ok _ j=>
     rintro⟨hj,hn⟩ hg
     rw[hn]
     exact go j (by have:=hg.1;omega) hj
   ·have hd:decide ((acc.length:Int)>0)=false:=decide_eq_false (by omega)
    rw[hd,if_neg h5]
    exact go i (Nat.le_refl _) hi
end
theorem func_p (hf:Mx+64<f0) (i:Nat):Pr X 0 (pFunc X i) (F.text_reader_function f0 (X.L.drop i) X.en 0):=by
 have hz:=X.sz
 have hf':Mx<f0:=by omega
 unfold F.text_reader_function pFunc
 have hn:=must_ok (X:=X) f0 i 0 (w:=ByteArray.mk #[102,110]) (by decide)
 revert hn
 cases pMust X (ByteArray.mk #[102,110]) i with
 | bad e p=>rintro⟨he,l,hn⟩;rw[hn];exact⟨he,l,rfl⟩
 | ok _ i=>
  rintro⟨h2,hn⟩
  rw[hn]
  simp only[bindP,Option.bind_some,R.bind_ok]
  have hn:=name_ok (X:=X) hf' i 0
  revert hn
  cases pName X i with
  | bad e p=>rintro⟨he,l,hn⟩;rw[hn];exact⟨he,l,rfl⟩
  | ok s i=>
   rintro⟨h2,hn⟩
   rw[hn]
   simp only[Option.bind_some,R.bind_ok]
   have hn:=must_ok (X:=X) f0 i 0 (w:=ByteArray.mk #[40]) (by decide)
   revert hn
   cases pMust X (ByteArray.mk #[40]) i with
   | bad e p=>rintro⟨he,l,hn⟩;rw[hn];exact⟨he,l,rfl⟩
   | ok _ i=>
    rintro⟨h2,hn⟩
    rw[hn]
    simp only[Option.bind_some,R.bind_ok]
    have hn:=given_p (X:=X) (d:=0) (f0:=f0) (c1:=s) (c2:=0) (c3:=ByteArray.mk #[]) (c4:=0) (c5:=false) (c6:=[]) (c7:=[]) (c8:=[]) hf' (X.L.length-i+1) i [] f0 h2 (by omega) (by omega) (by simp;omega)
    have he:=pGivenL_end (X:=X) (X.L.length-i+1) i []
    have hg:=pGivenL_ge (X:=X) (X.L.length-i+1) i [] h2 (by simp;omega) (fun x h=>by cases h)
    revert hn he hg
    cases pGivenL X (X.L.length-i+1) i [] with
    | bad e p=>rintro⟨l,hn⟩ _ hg;rw[hn];exact⟨hg,l,rfl⟩
    | ok g i=>
     intro hn he _
     have hn:loopF (F.text_reader_function_l1 f0) f0 _=some (.brk (X.L.drop i,X.en,0,s,0,ByteArray.mk #[],0,false,[],[],[],g)):=hn
     rw[hn]
     have he:=he _ _ rfl
     have hm:=must_ok (X:=X) f0 i 0 (w:=ByteArray.mk #[41]) (by decide)
     unfold pMust at hm
     rw[he,if_pos rfl] at hm
     simp only[bindE,hm.2,Option.bind_some,R.bind_ok]
     have hn:=must_ok (X:=X) f0 (i+1) 0 (w:=ByteArray.mk #[61]) (by decide)
     revert hn
     cases pMust X (ByteArray.mk #[61]) (i+1) with
     | bad e p=>rintro⟨he,l,hn⟩;rw[hn];exact⟨he,l,rfl⟩
     | ok _ i=>
      rintro⟨h2,hn⟩
      rw[hn]
      simp only[Option.bind_some,R.bind_ok]
      have hn:=expr_p (X:=X) 64 f0 (Nat.le_refl _) hf i h2
      have e0:((64-64:Nat):Int)=0:=rfl
      rw[e0] at hn
      revert hn
      cases pE X 64 i with
      | bad e p=>rintro⟨he,l,hn⟩;rw[hn];exact⟨he,l,rfl⟩
      | ok t i=>
       rintro⟨h2,hn⟩
       rw[hn]
       simp only[Option.bind_some,R.bind_ok,eta_tree]
       have hn:=must_ok (X:=X) f0 i 0 (w:=ByteArray.mk #[59]) (by decide)
       revert hn
       cases pMust X (ByteArray.mk #[59]) i with
       | bad e p=>rintro⟨he,l,hn⟩;rw[hn];exact⟨he,l,rfl⟩
       | ok _ i=>rintro⟨h2,hn⟩;rw[hn];exact⟨h2,rfl⟩
theorem read1 (fu:Nat) (e a:Int) (out:List SFunc):F.text_Read_1 fu e a out=some (e,a,if e=0 then out else[]):=by
 unfold F.text_Read_1
 by_cases h:e=0
 ·subst h;rfl
 ·have:(e !=0)=true:=by simpa using h
  rw[this,if_neg h];rfl
theorem prog_p (hf:Mx+64<f0):∀(m i:Nat) (acc:List SFunc) (fu:Nat),i≤X.L.length→X.L.length-i<m→X.L.length-i<fu→acc.length+(X.L.length-i)≤Mx→
  (match pProg X m i acc with
   | .ok a _=>∃l x y,loopF (F.text_Read_l1 f0) fu (X.L.drop i,X.en,0,acc)=some (.brk (l,x,y,a))
   | .bad e p=>loopF (F.text_Read_l1 f0) fu (X.L.drop i,X.en,0,acc)=some (.ret (.inl ([],⟨e,p⟩))))
 | 0,i,acc,fu,_,h,_,_=>by omega
 | m+1,i,acc,fu,hi,h,h2,h3=>by
  obtain⟨f,rfl⟩:∃f,fu=f+1:=⟨fu-1,by omega⟩
  rw[loopF_step]
  simp only[F.text_Read_l1,amb2_self,amb_self]
  unfold pProg
  have hl:(X.L.drop i).length=X.L.length-i:=by simp
  by_cases h4:i<X.L.length
  ·have hd:decide (((X.L.drop i).length:Int)>0)=true:=decide_eq_true (by rw[hl];omega)
   rw[hd,if_pos h4]
   have hn:=func_p (X:=X) hf i
   have hg:=pFunc_gd (X:=X) i
   revert hn hg
   cases pFunc X i with
   | bad e p=>
    rintro⟨he,l,hn⟩ hg
    simp only[hn,bindP,Option.bind_some,cond_true,read1,if_neg he,step_inr]
    rfl
   | ok a j=>
    rintro⟨hj,hn⟩ hg
    have hg:=hg.1
    simp only[hn,bindP,Option.bind_some,cond_true,app_chk (show acc.length≤Mx by omega) (show 152≤1000 by decide),step_inl,R.bind_ok]
    exact prog_p hf m j _ f hj (by omega) (by omega) (by simp;omega)
  ·have hd:decide (((X.L.drop i).length:Int)>0)=false:=decide_eq_false (by rw[hl];omega)
   rw[hd,if_neg h4]
   exact⟨_,_,_,rfl⟩
end Go.DN
