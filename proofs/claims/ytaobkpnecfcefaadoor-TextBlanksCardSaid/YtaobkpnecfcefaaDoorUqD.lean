/-
  Text, reading: the program's part: factors and chains.
-/
import Derived.Test.YtaobkpnecfcefaaDoorUqC
set_option linter.unusedVariables false
set_option linter.unusedSimpArgs false
set_option linter.unusedSectionVars false
namespace Go.DN
open Go.AM
theorem e_e:((ByteArray.mk #[]).toList==(ByteArray.mk #[]).toList)=true:=by rw[empty_iff];rfl
theorem e_n {c:UInt8}:((ByteArray.mk #[c]).toList==(ByteArray.mk #[]).toList)=false:=by rw[empty_iff];rfl
variable {X:Toks}{d:Int}{f0:Nat}
section
variable {self:(List SToken)→Int→Int→Option (Rp STree)}(hf:Mx<f0){S:Nat→R STree}(hP:∀i,i≤X.L.length→Pr X d (S i) (self (X.L.drop i) X.en d)) (hG:∀i,i≤X.L.length→Gd X TOk i (S i))
include hf hP hG
theorem call_p (s:ByteArray) (b:Bool) (sh:List SDim) (j:Nat) (hj:j≤X.L.length):Pr X d ((pLists X (X.L.length-j+1) j []).bind fun ls i=>(pMust X (ByteArray.mk #[40]) i).bind fun _ i=>
   (pKids X S (X.L.length-i+1) i []).bind fun ks i=>.ok ⟨3,s,0,b,sh,ls,ks⟩ (i+1))
  (bindE (fun r=>r) (loopF (F.text_reader_factor_l1 self f0) f0 (X.L.drop j,X.en,d,([]:List (List Int)),3,s,0,b,sh):Option (Ex ((List SToken)×Int×Int×(List (List Int))×Int×ByteArray×Int×Bool×(List SDim)) ((STree×(List SToken)×Int×Int)⊕((Int×Int)×((List SToken)×Int×Int))))) fun ((m80,m81,m82,m83,m84,m85,m86,m87,m88):(List SToken)×Int×Int×(List (List Int))×Int×ByteArray×Int×Bool×(List SDim))=>
        bindP (F.text_reader_must f0 (ByteArray.mk #[40]) m80 m81 m82)
         (fun ((r89,r90,r91):(List SToken)×Int×Int)=>
          bindE (fun r=>r) (loopF (F.text_reader_factor_l2 self f0) f0 (r89,r90,r91,([]:List STree),m84,m85,m86,m87,m88):Option (Ex ((List SToken)×Int×Int×(List STree)×Int×ByteArray×Int×Bool×(List SDim)) ((STree×(List SToken)×Int×Int)⊕((Int×Int)×((List SToken)×Int×Int))))) fun ((m122,m123,m124,m125,m126,m127,m128,m129,m130):(List SToken)×Int×Int×(List STree)×Int×ByteArray×Int×Bool×(List SDim))=>
          bindP (F.text_reader_must f0 (ByteArray.mk #[41]) m122 m123 m124)
           (fun ((r131,r132,r133):(List SToken)×Int×Int)=>
            some (.inl ((⟨m126,m127,m128,m129,m130,m83,m125⟩:STree),r131,r132,r133)))
           (fun ((e134,e135),(r136,r137,r138))=>
            some (.inr ((e134,e135),(r136,r137,r138)))))
         (fun ((e139,e140),(r141,r142,r143))=>
          some (.inr ((e139,e140),(r141,r142,r143))))):=by
 have hz:=X.sz
 obtain⟨e,h1,h2⟩:=lists_p (X:=X) (d:=d) (self:=self) (c1:=3) (c2:=s) (c3:=0) (c4:=b) (c5:=sh) hf (X.L.length-j+1) j [] f0 (by omega) (by omega) (by simp;omega)
 have hg:=pLists_ge (X:=X) (X.L.length-j+1) j [] hj (by simp;omega) (fun x h=>by cases h)
 rw[h1]
 revert h2 hg
 cases pLists X (X.L.length-j+1) j [] with
 | bad e p=>rintro⟨l,h2⟩ hg;subst h2;exact⟨hg,l,rfl⟩
 | ok ls j=>
  intro h2 hg
  subst h2
  have hj:=hg.2.1
  have hm:=must_ok (X:=X) f0 j d (w:=ByteArray.mk #[40]) (by decide)
  simp only[bindE,R.bind_ok]
  revert hm
  cases pMust X (ByteArray.mk #[40]) j with
  | bad e p=>rintro⟨he,l,hm⟩;rw[hm];exact⟨he,l,rfl⟩
  | ok _ j=>
   rintro⟨hj,hm⟩
   have hk:=kids_p (X:=X) (d:=d) (self:=self) (c1:=3) (c2:=s) (c3:=0) (c4:=b) (c5:=sh) hf hP hG (X.L.length-j+1) j [] f0 hj (by omega) (by omega) (by simp;omega)
   have hg:=pKids_ge (X:=X) hG (X.L.length-j+1) j [] hj (by simp;omega) (fun x h=>by cases h)
   have he:=pKids_end (X:=X) (S:=S) (X.L.length-j+1) j []
   rw[hm]
   simp only[bindP,Option.bind_some,R.bind_ok]
   revert hk hg he
   cases pKids X S (X.L.length-j+1) j [] with
   | bad e p=>rintro⟨l,hk⟩ hg _;rw[hk];exact⟨hg,l,rfl⟩
   | ok ks j=>
    intro hk hg he
    have hk:loopF (F.text_reader_factor_l2 self f0) f0 _=some (.brk (X.L.drop j,X.en,d,ks,3,s,0,b,sh)):=hk
    have he:=he _ _ rfl
    have hm:=must_ok (X:=X) f0 j d (w:=ByteArray.mk #[41]) (by decide)
    unfold pMust at hm
    rw[he,if_pos rfl] at hm
    rw[hk]
    simp only[hm.2,Option.bind_some,R.bind_ok]
    exact⟨hm.1,rfl⟩
theorem factor_p (i:Nat) (hi:i≤X.L.length):Pr X d (pFactor X S i) (F.text_reader_factor self f0 (X.L.drop i) X.en d):=by
 unfold F.text_reader_factor pFactor
 rw[isNumber_ok]
 simp only[Option.bind_some]
 cases h1:num (X.tx i) with
 | true=>
  have hn:=number_ok (X:=X) f0 i d
  unfold pNumber at hn
  rw[h1,if_pos rfl] at hn
  simp only[cond_true,if_pos,hn.2,bindP,Option.bind_some]
  exact⟨hn.1,rfl⟩
 | false=>
  rw[is_ok f0 i d (w:=ByteArray.mk #[40]) (by decide)]
  simp only[cond_false,Option.bind_some,if_neg (show ¬(false=true) by decide)]
  cases h2:X.is i (ByteArray.mk #[40]) with
  | true=>
   have h3:=is_lt (by decide) h2
   have hp:=hP (i+1) h3
   simp only[cond_true,if_pos]
   revert hp
   cases S (i+1) with
   | bad e p=>rintro⟨he,l,hn⟩;rw[hn];exact⟨he,l,rfl⟩
   | ok t j=>
    rintro⟨hj,hn⟩
    rw[hn]
    have hm:=must_ok (X:=X) f0 j d (w:=ByteArray.mk #[41]) (by decide)
    simp only[bindP,Option.bind_some,R.bind_ok,eta_tree]
    revert hm
    cases pMust X (ByteArray.mk #[41]) j with
    | bad e p=>rintro⟨he,l,hm⟩;rw[hm];exact⟨he,l,rfl⟩
    | ok _ j=>rintro⟨hj,hm⟩;rw[hm];exact⟨hj,rfl⟩
  | false=>
   have hn:=name_ok (X:=X) hf i d
   simp only[cond_false,if_neg (show ¬(false=true) by decide)]
   revert hn
   cases pName X i with
   | bad e p=>rintro⟨he,l,hn⟩;rw[hn];exact⟨he,l,rfl⟩
   | ok s j=>
    rintro⟨hj,hn⟩
    rw[hn]
    simp only[bindP,Option.bind_some,R.bind_ok,peek_ok]
    have a1:((X.tx j).toList==(ByteArray.mk #[91]).toList)=X.is j (ByteArray.mk #[91]):=rfl
    have a2:((X.tx j).toList==(ByteArray.mk #[123]).toList)=X.is j (ByteArray.mk #[123]):=rfl
    have a3:((X.tx j).toList==(ByteArray.mk #[40]).toList)=X.is j (ByteArray.mk #[40]):=rfl
    have hc:(cond (!(X.is j (ByteArray.mk #[91]))) (cond (!(X.is j (ByteArray.mk #[123]))) (some (!(X.is j (ByteArray.mk #[40])))) (some false)) (some false))=some (plain3 X j):=by
     unfold plain3
     cases X.is j (ByteArray.mk #[91]) <;> cases X.is j (ByteArray.mk #[123]) <;> cases X.is j (ByteArray.mk #[40]) <;> rfl
    rw[a1,a2,a3,hc,Option.bind_some]
    cases h4:plain3 X j with
    | true=>exact⟨hj,rfl⟩
    | false=>
     simp only[cond_false,if_neg (show ¬(false=true) by decide)]
     unfold pCall pSh
     cases h5:X.is j (ByteArray.mk #[91]) with
     | false=>
      simp only[cond_false,if_neg (show ¬(false=true) by decide),R.bind_ok]
      exact call_p hf hP hG s false [] j hj
     | true=>
      have hs:=shape_p (X:=X) (d:=d) hf j
      simp only[cond_true,if_pos]
      revert hs
      cases pShape X j with
      | bad e p=>rintro⟨he,l,hn⟩;rw[hn];exact⟨he,l,rfl⟩
      | ok sh j2=>
       rintro⟨hj2,hn⟩
       rw[hn]
       exact call_p hf hP hG s true sh j2 hj2
omit hP hG in
theorem sg1 (i:Nat):loopF (F.text_reader_chain_4_l1 self f0 [ByteArray.mk #[42]]) f0 (ByteArray.mk #[],0,X.L.drop i,X.en,d)=some (if isMul X i=true then X.tx i else ByteArray.mk #[],X.L.drop (if isMul X i=true then i+1 else i),X.en,d):=by
 obtain⟨f,e⟩:∃f,f0=f+2:=⟨f0-2,by simp only[Mx] at hf;omega⟩
 have d1:decide ((0:Int)<([ByteArray.mk #[42]].length:Int))=true:=rfl
 have d2:decide ((1:Int)<([ByteArray.mk #[42]].length:Int))=false:=rfl
 have w1:IntKind.wrap .i64 (0+1)=1:=by decide
 have i1:idx [ByteArray.mk #[42]] 0=some (ByteArray.mk #[42]):=rfl
 have hl:∀x,loopF (F.text_reader_chain_4_l1 self f0 [ByteArray.mk #[42]]) f0 x=loopF (F.text_reader_chain_4_l1 self f0 [ByteArray.mk #[42]]) (f+2) x:=fun x=>by rw[←e]
 rw[hl]
 have hm:=is_ok (X:=X) f0 i d (w:=ByteArray.mk #[42]) (by decide)
 have ht:isMul X i=X.is i (ByteArray.mk #[42]):=rfl
 rw[ht]
 cases h:X.is i (ByteArray.mk #[42]) with
 | true=>
  have hx:=toList_ext h
  rw[h] at hm
  simp only[loopF,F.text_reader_chain_4_l1,d1,cond_true,i1,Option.bind_some,e_e,hm,w1,d2,cond_false,if_pos,hx]
 | false=>
  rw[h] at hm
  simp only[loopF,F.text_reader_chain_4_l1,d1,cond_true,i1,Option.bind_some,e_e,hm,w1,d2,cond_false,if_neg (show ¬(false=true) by decide)]
omit hf hP hG in
theorem isMul_tx {i:Nat}(h:isMul X i=true):((X.tx i).toList==(ByteArray.mk #[]).toList)=false∧True:=by
 have hx:X.tx i=ByteArray.mk #[42]:=toList_ext h
 rw[hx]
 exact⟨e_n,trivial⟩
theorem ch4L:∀(k:Nat) (t:STree) (i fu:Nat) (j1:Int) (j2:ByteArray) (j3:Int) (j4:Bool) (j5:List SDim) (j6:List (List Int)) (j7:List STree),i≤X.L.length→k≤64→k<fu→
  (match pChainL X (pFactor X S) (isMul X) k t i with
   | .ok a j=>j≤X.L.length∧loopF (F.text_reader_chain_4_l2 self f0 [ByteArray.mk #[42]]) fu (((65-k:Nat):Int),X.L.drop i,X.en,d,j1,j2,j3,j4,j5,j6,j7,t.Kind,t.Name,t.Number,t.Shaped,t.Shape,t.Lists,t.Kids)=some (.ret (.inl (a,X.L.drop j,X.en,d,[ByteArray.mk #[42]])))
   | .bad e p=>e≠0∧∃l,loopF (F.text_reader_chain_4_l2 self f0 [ByteArray.mk #[42]]) fu (((65-k:Nat):Int),X.L.drop i,X.en,d,j1,j2,j3,j4,j5,j6,j7,t.Kind,t.Name,t.Number,t.Shaped,t.Shape,t.Lists,t.Kids)=some (.ret (.inr ((e,p),(l,X.en,d,[ByteArray.mk #[42]])))))
 | k,t,i,fu,j1,j2,j3,j4,j5,j6,j7,hi,hk,h=>by
  obtain⟨f,rfl⟩:∃f,fu=f+1:=⟨fu-1,by omega⟩
  rw[loopF_step]
  simp only[F.text_reader_chain_4_l2,amb2_self,at_ok,Option.bind_some,sg1 (X:=X) (d:=d) (self:=self) hf i,eta_tree]
  cases h1:isMul X i with
  | false=>
   cases k with
   | zero=>simp only[pChainL,h1,if_neg (show ¬(false=true) by decide),e_e,cond_true];exact⟨hi,rfl⟩
   | succ k=>simp only[pChainL,h1,if_neg (show ¬(false=true) by decide),e_e,cond_true];exact⟨hi,rfl⟩
  | true=>
   have h2:=isMul_lt i h1
   obtain⟨h3,h4⟩:=isMul_tx (X:=X) h1
   simp only[if_pos,h3,cond_false]
   cases k with
   | zero=>
    have hd:decide (((65-0:Nat):Int)>64)=true:=by decide
    simp only[pChainL,h1,if_pos,hd,cond_true]
    exact⟨by decide,_,rfl⟩
   | succ k=>
    have hd:decide (((65-(k+1):Nat):Int)>64)=false:=decide_eq_false (by omega)
    simp only[pChainL,h1,if_pos,hd,cond_false]
    have hp:=factor_p hf hP hG (i+1) h2
    revert hp
    cases pFactor X S (i+1) with
    | bad e p=>rintro⟨he,l,hn⟩;rw[hn];exact⟨he,l,rfl⟩
    | ok b j=>
     rintro⟨hj,hn⟩
     rw[hn]
     have hw:=wr (i:=65-(k+1)) (n:=65) (by omega) (by simp[Mx])
     have hw2:65-(k+1)+1=65-k:=by omega
     simp only[bindP,Option.bind_some,R.bind_ok,step_inl,hw,hw2,h4]
     exact ch4L k ⟨4,X.tx i,0,false,[],[],[t,b]⟩ j f j1 j2 j3 j4 j5 j6 j7 hj (by omega) (by omega)
theorem ch4_p (i:Nat) (hi:i≤X.L.length):(match (pFactor X S i).bind fun t i=>pChainL X (pFactor X S) (isMul X) 64 t i with
   | .ok a j=>j≤X.L.length∧F.text_reader_chain_4 self f0 (X.L.drop i) X.en d [ByteArray.mk #[42]]=some (.inl (a,X.L.drop j,X.en,d,[ByteArray.mk #[42]]))
   | .bad e p=>e≠0∧∃l,F.text_reader_chain_4 self f0 (X.L.drop i) X.en d [ByteArray.mk #[42]]=some (.inr ((e,p),(l,X.en,d,[ByteArray.mk #[42]])))):=by
 unfold F.text_reader_chain_4
 have hp:=factor_p hf hP hG i hi
 revert hp
 cases pFactor X S i with
 | bad e p=>rintro⟨he,l,hn⟩;rw[hn];exact⟨he,l,rfl⟩
 | ok t j=>
  rintro⟨hj,hn⟩
  rw[hn]
  have hl:=ch4L hf hP hG 64 t j f0 0 (ByteArray.mk #[]) 0 false [] [] [] hj (Nat.le_refl _) (by simp only[Mx] at hf;omega)
  have e1:((65-64:Nat):Int)=1:=rfl
  rw[e1] at hl
  simp only[bindP,Option.bind_some,R.bind_ok]
  revert hl
  cases pChainL X (pFactor X S) (isMul X) 64 t j with
  | ok a j=>rintro⟨hj,hl⟩;rw[hl];exact⟨hj,rfl⟩
  | bad e p=>rintro⟨he,l,hl⟩;rw[hl];exact⟨he,l,rfl⟩
theorem prod_p (i:Nat) (hi:i≤X.L.length):Pr X d (pProd X S i) (F.text_reader_expr_2 self f0 (X.L.drop i) X.en d):=by
 unfold F.text_reader_expr_2
 have hp:=ch4_p hf hP hG i hi
 have hx:(pProd X S i)=(pFactor X S i).bind fun t i=>pChainL X (pFactor X S) (isMul X) 64 t i:=rfl
 rw[←hx] at hp
 have hb:Nat.beq (List.length [ByteArray.mk #[42]]) (List.length [ByteArray.mk #[42]])=true:=rfl
 revert hp
 cases pProd X S i with
 | ok a j=>rintro⟨hj,hp⟩;rw[hp];simp only[bindP,Option.bind_some,hb,cond_true,eta_tree];exact⟨hj,rfl⟩
 | bad e p=>rintro⟨he,l,hp⟩;rw[hp];simp only[bindP,Option.bind_some,hb,cond_true];exact⟨he,l,rfl⟩
omit hP hG in
theorem sg2 (i:Nat):loopF (F.text_reader_chain_6_l1 self f0 [ByteArray.mk #[43],ByteArray.mk #[45]]) f0 (ByteArray.mk #[],0,X.L.drop i,X.en,d)=some (if isPM X i=true then X.tx i else ByteArray.mk #[],X.L.drop (if isPM X i=true then i+1 else i),X.en,d):=by
 obtain⟨f,e⟩:∃f,f0=f+3:=⟨f0-3,by simp only[Mx] at hf;omega⟩
 have d1:decide ((0:Int)<([ByteArray.mk #[43],ByteArray.mk #[45]].length:Int))=true:=rfl
 have d2:decide ((1:Int)<([ByteArray.mk #[43],ByteArray.mk #[45]].length:Int))=true:=rfl
 have d3:decide ((2:Int)<([ByteArray.mk #[43],ByteArray.mk #[45]].length:Int))=false:=rfl
 have w1:IntKind.wrap .i64 (0+1)=1:=by decide
 have w2:IntKind.wrap .i64 (1+1)=2:=by decide
 have i1:idx [ByteArray.mk #[43],ByteArray.mk #[45]] 0=some (ByteArray.mk #[43]):=rfl
 have i2:idx [ByteArray.mk #[43],ByteArray.mk #[45]] 1=some (ByteArray.mk #[45]):=rfl
 have hl:∀x,loopF (F.text_reader_chain_6_l1 self f0 [ByteArray.mk #[43],ByteArray.mk #[45]]) f0 x=loopF (F.text_reader_chain_6_l1 self f0 [ByteArray.mk #[43],ByteArray.mk #[45]]) (f+3) x:=fun x=>by rw[←e]
 rw[hl]
 have hm:=is_ok (X:=X) f0 i d (w:=ByteArray.mk #[43]) (by decide)
 have hm2:=is_ok (X:=X) f0 i d (w:=ByteArray.mk #[45]) (by decide)
 unfold isPM
 cases h:X.is i (ByteArray.mk #[43]) with
 | true=>
  have hx:=toList_ext h
  rw[h] at hm
  simp only[loopF,F.text_reader_chain_6_l1,d1,cond_true,i1,i2,Option.bind_some,e_e,e_n,hm,w1,w2,d2,d3,cond_false,if_pos,hx,Bool.true_or]
 | false=>
  rw[h] at hm
  cases h2:X.is i (ByteArray.mk #[45]) with
  | true=>
   have hx:=toList_ext h2
   rw[h2] at hm2
   simp only[loopF,F.text_reader_chain_6_l1,d1,cond_true,i1,i2,Option.bind_some,e_e,e_n,hm,hm2,w1,w2,d2,d3,cond_false,if_pos,hx,Bool.false_or,if_neg (show ¬(false=true) by decide)]
  | false=>
   rw[h2] at hm2
   simp only[loopF,F.text_reader_chain_6_l1,d1,cond_true,i1,i2,Option.bind_some,e_e,e_n,hm,hm2,w1,w2,d2,d3,cond_false,Bool.false_or,if_neg (show ¬(false=true) by decide)]
omit hf hP hG in
theorem isPM_tx {i:Nat}(h:isPM X i=true):((X.tx i).toList==(ByteArray.mk #[]).toList)=false∧True:=by
 unfold isPM at h
 rw[Bool.or_eq_true] at h
 rcases h with h | h
 ·have hx:X.tx i=ByteArray.mk #[43]:=toList_ext h
  rw[hx];exact⟨e_n,trivial⟩
 ·have hx:X.tx i=ByteArray.mk #[45]:=toList_ext h
  rw[hx];exact⟨e_n,trivial⟩
theorem ch6L:∀(k:Nat) (t:STree) (i fu:Nat) (j1:Int) (j2:ByteArray) (j3:Int) (j4:Bool) (j5:List SDim) (j6:List (List Int)) (j7:List STree),i≤X.L.length→k≤64→k<fu→
  (match pChainL X (pProd X S) (isPM X) k t i with
   | .ok a j=>j≤X.L.length∧loopF (F.text_reader_chain_6_l2 self f0 [ByteArray.mk #[43],ByteArray.mk #[45]]) fu (((65-k:Nat):Int),X.L.drop i,X.en,d,j1,j2,j3,j4,j5,j6,j7,t.Kind,t.Name,t.Number,t.Shaped,t.Shape,t.Lists,t.Kids)=some (.ret (.inl (a,X.L.drop j,X.en,d,[ByteArray.mk #[43],ByteArray.mk #[45]])))
   | .bad e p=>e≠0∧∃l,loopF (F.text_reader_chain_6_l2 self f0 [ByteArray.mk #[43],ByteArray.mk #[45]]) fu (((65-k:Nat):Int),X.L.drop i,X.en,d,j1,j2,j3,j4,j5,j6,j7,t.Kind,t.Name,t.Number,t.Shaped,t.Shape,t.Lists,t.Kids)=some (.ret (.inr ((e,p),(l,X.en,d,[ByteArray.mk #[43],ByteArray.mk #[45]])))))
 | k,t,i,fu,j1,j2,j3,j4,j5,j6,j7,hi,hk,h=>by
  obtain⟨f,rfl⟩:∃f,fu=f+1:=⟨fu-1,by omega⟩
  rw[loopF_step]
  simp only[F.text_reader_chain_6_l2,amb2_self,at_ok,Option.bind_some,sg2 (X:=X) (d:=d) (self:=self) hf i,eta_tree]
  cases h1:isPM X i with
  | false=>
   cases k with
   | zero=>simp only[pChainL,h1,if_neg (show ¬(false=true) by decide),e_e,cond_true];exact⟨hi,rfl⟩
   | succ k=>simp only[pChainL,h1,if_neg (show ¬(false=true) by decide),e_e,cond_true];exact⟨hi,rfl⟩
  | true=>
   have h2:=isPM_lt i h1
   obtain⟨h3,h4⟩:=isPM_tx (X:=X) h1
   simp only[if_pos,h3,cond_false]
   cases k with
   | zero=>
    have hd:decide (((65-0:Nat):Int)>64)=true:=by decide
    simp only[pChainL,h1,if_pos,hd,cond_true]
    exact⟨by decide,_,rfl⟩
   | succ k=>
    have hd:decide (((65-(k+1):Nat):Int)>64)=false:=decide_eq_false (by omega)
    simp only[pChainL,h1,if_pos,hd,cond_false]
    have hp:=prod_p hf hP hG (i+1) h2
    revert hp
    cases pProd X S (i+1) with
    | bad e p=>rintro⟨he,l,hn⟩;rw[hn];exact⟨he,l,rfl⟩
    | ok b j=>
     rintro⟨hj,hn⟩
     rw[hn]
     have hw:=wr (i:=65-(k+1)) (n:=65) (by omega) (by simp[Mx])
     have hw2:65-(k+1)+1=65-k:=by omega
     simp only[bindP,Option.bind_some,R.bind_ok,step_inl,hw,hw2,h4]
     exact ch6L k ⟨4,X.tx i,0,false,[],[],[t,b]⟩ j f j1 j2 j3 j4 j5 j6 j7 hj (by omega) (by omega)
theorem ch6_p (i:Nat) (hi:i≤X.L.length):(match (pProd X S i).bind fun t i=>pChainL X (pProd X S) (isPM X) 64 t i with
   | .ok a j=>j≤X.L.length∧F.text_reader_chain_6 self f0 (X.L.drop i) X.en d [ByteArray.mk #[43],ByteArray.mk #[45]]=some (.inl (a,X.L.drop j,X.en,d,[ByteArray.mk #[43],ByteArray.mk #[45]]))
   | .bad e p=>e≠0∧∃l,F.text_reader_chain_6 self f0 (X.L.drop i) X.en d [ByteArray.mk #[43],ByteArray.mk #[45]]=some (.inr ((e,p),(l,X.en,d,[ByteArray.mk #[43],ByteArray.mk #[45]])))):=by
 unfold F.text_reader_chain_6
 have hp:=prod_p hf hP hG i hi
 revert hp
 cases pProd X S i with
 | bad e p=>rintro⟨he,l,hn⟩;rw[hn];exact⟨he,l,rfl⟩
 | ok t j=>
  rintro⟨hj,hn⟩
  rw[hn]
  have hl:=ch6L hf hP hG 64 t j f0 0 (ByteArray.mk #[]) 0 false [] [] [] hj (Nat.le_refl _) (by simp only[Mx] at hf;omega)
  have e1:((65-64:Nat):Int)=1:=rfl
  rw[e1] at hl
  simp only[bindP,Option.bind_some,R.bind_ok]
  revert hl
  cases pChainL X (pProd X S) (isPM X) 64 t j with
  | ok a j=>rintro⟨hj,hl⟩;rw[hl];exact⟨hj,rfl⟩
  | bad e p=>rintro⟨he,l,hl⟩;rw[hl];exact⟨he,l,rfl⟩
end
end Go.DN
