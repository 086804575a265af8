/-
  Text, reading: the reference's part: factors, chains, expressions.
-/
import Derived.Test.YtaobkpnecfcefaaDoorUrA
set_option linter.unusedVariables false
set_option linter.unusedSimpArgs false
set_option linter.unusedSectionVars false
namespace Go.DN
open Go.AM
variable {X:Toks}{f0:Nat}
theorem ne_beq {e:Int}(h:e≠0):(e==0)=false∧(e !=0)=true:=⟨by simpa using h,by simpa using h⟩
theorem e00:((0:Int)==0)=true∧((0:Int) !=0)=false:=⟨rfl,rfl⟩
theorem key3 {β:Type}(a b c:Bool) (z:β):(cond (!a) (cond (!b) (some ((!c),z)) (some (false,z))) (some (false,z)))=some (!a&&(!b&&!c),z):=by cases a <;> cases b <;> cases c <;> rfl
section
variable {self:Slist→Int→Int→Option (STree×Int×SFault)}{dp:Int}(hf:Mx+1<f0){S:Nat→R STree}(hR:∀i:Nat,i≤X.L.length→Rf (S i) (self X.x (i:Int) (IntKind.wrap .i64 (dp+1)))) (hG:∀i,i≤X.L.length→Gd X TOk i (S i))
include hf hR hG
theorem call2_r (s:ByteArray) (b:Bool) (sh:List SDim) (i:Nat) (hi:i≤X.L.length):
  (match (pLists X (X.L.length-i+1) i []).bind fun ls i=>(pMust X (ByteArray.mk #[40]) i).bind fun _ i=>(pKids X S (X.L.length-i+1) i []).bind fun ks i=>.ok (⟨3,s,0,b,sh,ls,ks⟩:STree) (i+1) with
   | .ok t j=>((loopF (F.adjointref3_list_call_l1 self f0 X.x) f0 ((i:Int),0,0,[],3,s,0,b,sh)).bind fun ((i37,m38,m39,m40,m41,m42,m43,m44,m45):Int×Int×Int×(List (List Int))×Int×ByteArray×Int×Bool×(List SDim))=>
 cond (m38 !=0)
  (some (m41,m42,m43,m44,m45,i37,(⟨m38,m39⟩:SFault),m40,([]:List STree)))
  ((F.adjointref3_list_text f0 X.x i37).bind fun (r46:ByteArray)=>
   cond (!(r46.toList==(ByteArray.mk #[40]).toList))
    ((F.adjointref3_list_bad f0 X.x i37).bind fun (r47:SFault)=>
    some (m41,m42,m43,m44,m45,i37,r47,m40,([]:List STree)))
    (bindE (fun r=>r) (loopF (F.adjointref3_list_call_l2 self f0 X.x dp m40) f0 (0,IntKind.wrap .i64 (i37+1),0,(ByteArray.mk #[]),0,false,([]:List SDim),([]:List (List Int)),([]:List STree),0,0,m38,m39,([]:List STree),m41,m42,m43,m44,m45):Option (Ex (Int×Int×ByteArray×Int×Bool×(List SDim)×(List (List Int))×(List STree)×Int×Int×Int×Int×(List STree)×Int×ByteArray×Int×Bool×(List SDim)) (Int×ByteArray×Int×Bool×(List SDim)×Int×SFault×(List (List Int))×(List STree)))) fun ((i84,m85,m86,m87,m88,m89,m90,m91,m92,m93,m94,m95,m96,m97,m98,m99,m100,m101):Int×Int×ByteArray×Int×Bool×(List SDim)×(List (List Int))×(List STree)×Int×Int×Int×Int×(List STree)×Int×ByteArray×Int×Bool×(List SDim))=>
    some (m97,m98,m99,m100,m101,IntKind.wrap .i64 (i84+1),(⟨m94,m95⟩:SFault),m40,m96))))=some (t.Kind,t.Name,t.Number,t.Shaped,t.Shape,(j:Int),⟨0,0⟩,t.Lists,t.Kids)
   | .bad e p=>∃a1 a2 a3 a4 a5 a6 a7 a8,((loopF (F.adjointref3_list_call_l1 self f0 X.x) f0 ((i:Int),0,0,[],3,s,0,b,sh)).bind fun ((i37,m38,m39,m40,m41,m42,m43,m44,m45):Int×Int×Int×(List (List Int))×Int×ByteArray×Int×Bool×(List SDim))=>
 cond (m38 !=0)
  (some (m41,m42,m43,m44,m45,i37,(⟨m38,m39⟩:SFault),m40,([]:List STree)))
  ((F.adjointref3_list_text f0 X.x i37).bind fun (r46:ByteArray)=>
   cond (!(r46.toList==(ByteArray.mk #[40]).toList))
    ((F.adjointref3_list_bad f0 X.x i37).bind fun (r47:SFault)=>
    some (m41,m42,m43,m44,m45,i37,r47,m40,([]:List STree)))
    (bindE (fun r=>r) (loopF (F.adjointref3_list_call_l2 self f0 X.x dp m40) f0 (0,IntKind.wrap .i64 (i37+1),0,(ByteArray.mk #[]),0,false,([]:List SDim),([]:List (List Int)),([]:List STree),0,0,m38,m39,([]:List STree),m41,m42,m43,m44,m45):Option (Ex (Int×Int×ByteArray×Int×Bool×(List SDim)×(List (List Int))×(List STree)×Int×Int×Int×Int×(List STree)×Int×ByteArray×Int×Bool×(List SDim)) (Int×ByteArray×Int×Bool×(List SDim)×Int×SFault×(List (List Int))×(List STree)))) fun ((i84,m85,m86,m87,m88,m89,m90,m91,m92,m93,m94,m95,m96,m97,m98,m99,m100,m101):Int×Int×ByteArray×Int×Bool×(List SDim)×(List (List Int))×(List STree)×Int×Int×Int×Int×(List STree)×Int×ByteArray×Int×Bool×(List SDim))=>
    some (m97,m98,m99,m100,m101,IntKind.wrap .i64 (i84+1),(⟨m94,m95⟩:SFault),m40,m96))))=some (a1,a2,a3,a4,a5,a6,⟨e,p⟩,a7,a8)):=by
 have hz:=X.sz
 have h:=lists_r (X:=X) (self:=self) (c1:=3) (c2:=s) (c3:=0) (c4:=b) (c5:=sh) hf (X.L.length-i+1) i [] f0 hi (by omega) (by omega) (by simp;omega)
 have hg:=pLists_ge (X:=X) (X.L.length-i+1) i [] hi (by simp;omega) (fun x h=>by cases h)
 revert h hg
 cases pLists X (X.L.length-i+1) i [] with
 | bad e p=>
  rintro⟨k,a,h⟩ hg
  simp only[h,Option.bind_some,(ne_beq (show e≠0 from hg)).2,cond_true,R.bind_bad]
  exact⟨_,_,_,_,_,_,_,_,rfl⟩
 | ok ls j=>
  intro h hg
  have hj:=hg.2.1
  simp only[h,Option.bind_some,e00.2,cond_false,R.bind_ok,text_okR,bad_okR]
  have hx:((X.tx j).toList==(ByteArray.mk #[40]).toList)=X.is j (ByteArray.mk #[40]):=rfl
  rw[hx]
  unfold pMust
  cases h4:X.is j (ByteArray.mk #[40]) with
  | false=>
   simp only[Bool.not_false,cond_true,if_neg (show ¬(false=true) by decide),R.bind_bad]
   exact⟨_,_,_,_,_,_,_,_,rfl⟩
  | true=>
   have h5:=is_lt (by decide) h4
   simp only[Bool.not_true,cond_false,if_pos,R.bind_ok,w1 (show j≤Mx by omega)]
   have hk:=kids_r (X:=X) (self:=self) (v48:=0) (g1:=0) (g2:=0) (g3:=ByteArray.mk #[]) (g4:=0) (g5:=false) (g6:=[]) (g7:=[]) (g8:=[]) (g9:=0) (g10:=0) (ls:=ls) (c1:=3) (c2:=s) (c3:=0) (c4:=b) (c5:=sh) hf hR hG (X.L.length-(j+1)+1) (j+1) [] f0 h5 (by omega) (by omega) (by simp;omega)
   have hg:=pKids_ge (X:=X) hG (X.L.length-(j+1)+1) (j+1) [] h5 (by simp;omega) (fun x h=>by cases h)
   revert hk hg
   cases pKids X S (X.L.length-(j+1)+1) (j+1) [] with
   | bad e p=>
    rintro⟨k,a,h⟩ hg
    simp only[h,bindE,R.bind_bad]
    exact⟨_,_,_,_,_,_,_,_,rfl⟩
   | ok ks k=>
    intro h hg
    have hk:=hg.2.1
    simp only[h,bindE,R.bind_ok,w1 (show k≤Mx by omega)]
theorem call_r (s:ByteArray) (i:Nat) (hi:i≤X.L.length):(match pCall X S s i with
   | .ok t j=>F.adjointref3_list_call self f0 X.x 2 s 0 false [] (i:Int) dp [] []=some (t.Kind,t.Name,t.Number,t.Shaped,t.Shape,(j:Int),⟨0,0⟩,t.Lists,t.Kids)
   | .bad e p=>∃a1 a2 a3 a4 a5 a6 a7 a8,F.adjointref3_list_call self f0 X.x 2 s 0 false [] (i:Int) dp [] []=some (a1,a2,a3,a4,a5,a6,⟨e,p⟩,a7,a8)):=by
 have hz:=X.sz
 unfold F.adjointref3_list_call pCall pSh
 rw[text_okR]
 simp only[Option.bind_some]
 have hx:((X.tx i).toList==(ByteArray.mk #[91]).toList)=X.is i (ByteArray.mk #[91]):=rfl
 rw[hx]
 cases h4:X.is i (ByteArray.mk #[91]) with
 | false=>
  simp only[cond_false,Option.bind_some,if_neg (show ¬(false=true) by decide),R.bind_ok]
  exact call2_r hf hR hG s false [] i hi
 | true=>
  have hs:=shape_r (X:=X) (f0:=f0) (by omega) i hi
  have hg:=pShape_gd (X:=X) i
  simp only[cond_true,if_pos]
  revert hs hg
  cases pShape X i with
  | bad e p=>
   rintro⟨a,k,hs⟩ hg
   have he:=ne_beq (show e≠0 from hg)
   obtain⟨f,ef⟩:∃f,f0=f+1:=⟨f0-1,by omega⟩
   have hl:∀x,loopF (F.adjointref3_list_call_l1 self f0 X.x) f0 x=loopF (F.adjointref3_list_call_l1 self f0 X.x) (f+1) x:=fun x=>by rw[←ef]
   simp only[hs,Option.bind_some,R.bind_bad,hl,loopF,F.adjointref3_list_call_l1,he.1,cond_false,he.2,cond_true]
   exact⟨_,_,_,_,_,_,_,_,rfl⟩
  | ok sh j=>
   intro hs hg
   have hs:F.adjointref3_list_shape f0 X.x (i:Int)=some (sh,(j:Int),⟨0,0⟩):=hs
   simp only[hs,Option.bind_some,R.bind_ok]
   exact call2_r hf hR hG s true sh j hg.2.1
theorem factor_r (i:Nat) (hi:i≤X.L.length):Rf (pFactor X S i) (F.adjointref3_list_factor self f0 X.x (i:Int) dp):=by
 have hz:=X.sz
 unfold F.adjointref3_list_factor pFactor
 simp only[isNumber_okR,text_okR,bad_okR,Option.bind_some,w1 (show i≤Mx by omega)]
 cases h1:num (X.tx i) with
 | true=>
  simp only[cond_true,if_pos,val_okR (X:=X) (f0:=f0) (by omega) h1,Option.bind_some]
  exact rfl
 | false=>
  simp only[cond_false,if_neg (show ¬(false=true) by decide)]
  have hx:((X.tx i).toList==(ByteArray.mk #[40]).toList)=X.is i (ByteArray.mk #[40]):=rfl
  rw[hx]
  cases h2:X.is i (ByteArray.mk #[40]) with
  | true=>
   have h3:=is_lt (by decide) h2
   have hp:=hR (i+1) h3
   have hg:=hG (i+1) h3
   simp only[cond_true,if_pos]
   revert hp hg
   cases S (i+1) with
   | bad e p=>
    rintro⟨a,k,hn⟩ hg
    simp only[hn,Option.bind_some,(ne_beq (show e≠0 from hg)).1,cond_false,R.bind_bad]
    exact⟨_,_,rfl⟩
   | ok t j=>
    intro hn hg
    have hn:self X.x ((i+1:Nat):Int) (IntKind.wrap .i64 (dp+1))=some (t,(j:Int),⟨0,0⟩):=hn
    have hj:=hg.2.1
    simp only[hn,Option.bind_some,e00.1,cond_true,text_okR,bad_okR,R.bind_ok,eta_tree,w1 (show j≤Mx by omega)]
    have hx:((X.tx j).toList==(ByteArray.mk #[41]).toList)=X.is j (ByteArray.mk #[41]):=rfl
    rw[hx]
    unfold pMust
    cases h5:X.is j (ByteArray.mk #[41]) with
    | true=>exact rfl
    | false=>exact⟨_,_,rfl⟩
  | false=>
   simp only[cond_false,if_neg (show ¬(false=true) by decide),name_okR (X:=X) (f0:=f0) (by omega) i,Option.bind_some]
   unfold pName
   cases h3:nm (X.tx i) with
   | false=>exact⟨_,_,rfl⟩
   | true=>
    have h4:=tx_lt (nm_ne h3)
    simp only[Bool.not_true,cond_false,if_pos,R.bind_ok,key3,Option.bind_some]
    have hx:(!((X.tx (i+1)).toList==(ByteArray.mk #[91]).toList)&&(!((X.tx (i+1)).toList==(ByteArray.mk #[123]).toList)&&!((X.tx (i+1)).toList==(ByteArray.mk #[40]).toList)))=plain3 X (i+1):=rfl
    rw[hx]
    cases h5:plain3 X (i+1) with
    | true=>exact rfl
    | false=>
     have hc:=call_r hf hR hG (X.tx i) (i+1) h4
     simp only[cond_false,if_neg (show ¬(false=true) by decide)]
     revert hc
     cases pCall X S (X.tx i) (i+1) with
     | bad e p=>rintro⟨a1,a2,a3,a4,a5,a6,a7,a8,hc⟩;rw[hc];exact⟨_,_,rfl⟩
     | ok t j=>
      intro hc
      have hc:F.adjointref3_list_call self f0 X.x 2 (X.tx i) 0 false [] ((i+1:Nat):Int) dp [] []=_:=hc
      rw[hc]
      simp only[Option.bind_some,eta_tree]
      exact rfl
theorem prod_rL {v7 g1:Int}{g2:ByteArray}{g3:Int}{g4:Bool}{g5:List SDim}{g6:List (List Int)}{g7:List STree}{g8 g9:Int}:∀(k:Nat) (t:STree) (i fu:Nat),i≤X.L.length→k≤64→k+1<fu→
  (match pChainL X (pFactor X S) (isMul X) k t i with
   | .ok a j=>loopF (F.adjointref3_list_product_l1 self f0 X.x dp) fu (v7,(i:Int),((65-k:Nat):Int),g1,g2,g3,g4,g5,g6,g7,g8,g9,0,0,t.Kind,t.Name,t.Number,t.Shaped,t.Shape,t.Lists,t.Kids)=some (.brk ((j:Int),g1,g2,g3,g4,g5,g6,g7,g8,g9,0,0,a.Kind,a.Name,a.Number,a.Shaped,a.Shape,a.Lists,a.Kids))
   | .bad e p=>(∃(q:Int) (a:STree),loopF (F.adjointref3_list_product_l1 self f0 X.x dp) fu (v7,(i:Int),((65-k:Nat):Int),g1,g2,g3,g4,g5,g6,g7,g8,g9,0,0,t.Kind,t.Name,t.Number,t.Shaped,t.Shape,t.Lists,t.Kids)=some (.brk (q,g1,g2,g3,g4,g5,g6,g7,g8,g9,e,p,a.Kind,a.Name,a.Number,a.Shaped,a.Shape,a.Lists,a.Kids)))∨∃(a:STree) (q:Int),loopF (F.adjointref3_list_product_l1 self f0 X.x dp) fu (v7,(i:Int),((65-k:Nat):Int),g1,g2,g3,g4,g5,g6,g7,g8,g9,0,0,t.Kind,t.Name,t.Number,t.Shaped,t.Shape,t.Lists,t.Kids)=some (.ret (a,q,⟨e,p⟩)))
 | k,t,i,fu,hi,hk,h=>by
  have hz:=X.sz
  obtain⟨f,rfl⟩:∃f,fu=f+2:=⟨fu-2,by omega⟩
  rw[loopF_step]
  simp only[F.adjointref3_list_product_l1,text_okR,much_okR,Option.bind_some,e00.1,cond_true,eta_tree]
  have hx:((X.tx i).toList==(ByteArray.mk #[42]).toList)=(isMul X i):=rfl
  rw[hx]
  cases h1:isMul X i with
  | false=>
   cases k with
   | zero=>simp only[pChainL,h1,if_neg (show ¬(false=true) by decide),cond_false,step_inr]
   | succ k=>simp only[pChainL,h1,if_neg (show ¬(false=true) by decide),cond_false,step_inr]
  | true=>
   have h2:=isMul_lt i h1
   simp only[cond_true]
   cases k with
   | zero=>
    have hd:decide (((65-0:Nat):Int)>64)=true:=by decide
    simp only[pChainL,h1,if_pos,hd,cond_true,step_inr]
    exact .inr ⟨_,_,rfl⟩
   | succ k=>
    have hd:decide (((65-(k+1):Nat):Int)>64)=false:=decide_eq_false (by omega)
    simp only[pChainL,h1,if_pos,hd,cond_false,w1 (show i≤Mx by omega)]
    have hp:Rf (pFactor X S (i+1)) _:=factor_r hf hR hG (i+1) h2
    have hg:=pFactor_gd (X:=X) hG (i+1) h2
    have hw:=wr (i:=65-(k+1)) (n:=65) (by omega) (by simp[Mx])
    have hw2:65-(k+1)+1=65-k:=by omega
    revert hp hg
    cases pFactor X S (i+1) with
    | bad e p=>
     rintro⟨a,q,hn⟩ hg
     have he:=ne_beq (show e≠0 from hg)
     simp only[hn,Option.bind_some,R.bind_bad,step_inl,loopF_step,F.adjointref3_list_product_l1,he.1,cond_false,step_inr]
     exact .inl ⟨q,⟨4,_,0,false,[],[],[t,a]⟩,rfl⟩
    | ok b j=>
     intro hn hg
     have hn:F.adjointref3_list_factor self f0 X.x ((i+1:Nat):Int) dp=some (b,(j:Int),⟨0,0⟩):=hn
     have hj:=hg.2.1
     simp only[hn,Option.bind_some,R.bind_ok,step_inl,hw,hw2,eta_tree]
     have hx2:X.tx i=ByteArray.mk #[42]:=toList_ext h1
     rw[←hx2]
     exact prod_rL k ⟨4,X.tx i,0,false,[],[],[t,b]⟩ j (f+1) hj (by omega) (by omega)
theorem prod_r (i:Nat) (hi:i≤X.L.length):Rf ((pFactor X S i).bind fun t i=>pChainL X (pFactor X S) (isMul X) 64 t i) (F.adjointref3_list_product self f0 X.x (i:Int) dp):=by
 unfold F.adjointref3_list_product
 have hp:Rf (pFactor X S i) _:=factor_r hf hR hG i hi
 have hg:=pFactor_gd (X:=X) hG i hi
 revert hp hg
 cases pFactor X S i with
 | bad e p=>
  rintro⟨a,q,hn⟩ hg
  have he:=ne_beq (show e≠0 from hg)
  obtain⟨f,ef⟩:∃f,f0=f+1:=⟨f0-1,by omega⟩
  have hl:∀x,loopF (F.adjointref3_list_product_l1 self f0 X.x dp) f0 x=loopF (F.adjointref3_list_product_l1 self f0 X.x dp) (f+1) x:=fun x=>by rw[←ef]
  simp only[hn,Option.bind_some,R.bind_bad,hl,loopF,F.adjointref3_list_product_l1,he.1,cond_false,bindE]
  exact⟨_,_,rfl⟩
 | ok t j=>
  intro hn hg
  have hn:F.adjointref3_list_factor self f0 X.x (i:Int) dp=some (t,(j:Int),⟨0,0⟩):=hn
  have hj:=hg.2.1
  have hl:=prod_rL (v7:=0) (g1:=0) (g2:=ByteArray.mk #[]) (g3:=0) (g4:=false) (g5:=[]) (g6:=[]) (g7:=[]) (g8:=0) (g9:=0) hf hR hG 64 t j f0 hj (Nat.le_refl _) (by simp only[Mx] at hf;omega)
  have e1:((65-64:Nat):Int)=1:=rfl
  rw[e1] at hl
  simp only[hn,Option.bind_some,R.bind_ok]
  revert hl
  cases pChainL X (pFactor X S) (isMul X) 64 t j with
  | ok a q=>intro hl;simp only[hl,bindE,eta_tree];exact rfl
  | bad e p=>
   rintro(⟨q,a,hl⟩ | ⟨a,q,hl⟩)
   ·simp only[hl,bindE];exact⟨_,_,rfl⟩
   ·simp only[hl,bindE];exact⟨_,_,rfl⟩
omit hf hR hG in
theorem pm_ok (i:Nat):(cond ((X.tx i).toList==(ByteArray.mk #[43]).toList) (some true) (some ((X.tx i).toList==(ByteArray.mk #[45]).toList)))=some (isPM X i):=by
 unfold isPM Toks.is
 cases ((X.tx i).toList==(ByteArray.mk #[43]).toList) <;> rfl
theorem sum_rL {v7 g1:Int}{g2:ByteArray}{g3:Int}{g4:Bool}{g5:List SDim}{g6:List (List Int)}{g7:List STree}{g8 g9:Int}:∀(k:Nat) (t:STree) (i fu:Nat),i≤X.L.length→k≤64→k+1<fu→
  (match pChainL X (pProd X S) (isPM X) k t i with
   | .ok a j=>loopF (F.adjointref3_list_sum_l1 self f0 X.x dp) fu (v7,(i:Int),((65-k:Nat):Int),g1,g2,g3,g4,g5,g6,g7,g8,g9,0,0,t.Kind,t.Name,t.Number,t.Shaped,t.Shape,t.Lists,t.Kids)=some (.brk ((j:Int),g1,g2,g3,g4,g5,g6,g7,g8,g9,0,0,a.Kind,a.Name,a.Number,a.Shaped,a.Shape,a.Lists,a.Kids))
   | .bad e p=>(∃(q:Int) (a:STree),loopF (F.adjointref3_list_sum_l1 self f0 X.x dp) fu (v7,(i:Int),((65-k:Nat):Int),g1,g2,g3,g4,g5,g6,g7,g8,g9,0,0,t.Kind,t.Name,t.Number,t.Shaped,t.Shape,t.Lists,t.Kids)=some (.brk (q,g1,g2,g3,g4,g5,g6,g7,g8,g9,e,p,a.Kind,a.Name,a.Number,a.Shaped,a.Shape,a.Lists,a.Kids)))∨∃(a:STree) (q:Int),loopF (F.adjointref3_list_sum_l1 self f0 X.x dp) fu (v7,(i:Int),((65-k:Nat):Int),g1,g2,g3,g4,g5,g6,g7,g8,g9,0,0,t.Kind,t.Name,t.Number,t.Shaped,t.Shape,t.Lists,t.Kids)=some (.ret (a,q,⟨e,p⟩)))
 | k,t,i,fu,hi,hk,h=>by
  have hz:=X.sz
  obtain⟨f,rfl⟩:∃f,fu=f+2:=⟨fu-2,by omega⟩
  rw[loopF_step]
  simp only[F.adjointref3_list_sum_l1,text_okR,much_okR,Option.bind_some,e00.1,cond_true,eta_tree]
  have hx:(cond ((X.tx i).toList==(ByteArray.mk #[43]).toList) (some true) (some ((X.tx i).toList==(ByteArray.mk #[45]).toList)))=some (isPM X i):=pm_ok i
  rw[hx]
  simp only[Option.bind_some]
  cases h1:isPM X i with
  | false=>
   cases k with
   | zero=>simp only[pChainL,h1,if_neg (show ¬(false=true) by decide),cond_false,step_inr]
   | succ k=>simp only[pChainL,h1,if_neg (show ¬(false=true) by decide),cond_false,step_inr]
  | true=>
   have h2:=isPM_lt i h1
   simp only[cond_true]
   cases k with
   | zero=>
    have hd:decide (((65-0:Nat):Int)>64)=true:=by decide
    simp only[pChainL,h1,if_pos,hd,cond_true,step_inr]
    exact .inr ⟨_,_,rfl⟩
   | succ k=>
    have hd:decide (((65-(k+1):Nat):Int)>64)=false:=decide_eq_false (by omega)
    simp only[pChainL,h1,if_pos,hd,cond_false,w1 (show i≤Mx by omega)]
    have hp:Rf (pProd X S (i+1)) _:=prod_r hf hR hG (i+1) h2
    have hg:=pProd_gd (X:=X) hG (i+1) h2
    have hw:=wr (i:=65-(k+1)) (n:=65) (by omega) (by simp[Mx])
    have hw2:65-(k+1)+1=65-k:=by omega
    revert hp hg
    cases pProd X S (i+1) with
    | bad e p=>
     rintro⟨a,q,hn⟩ hg
     have he:=ne_beq (show e≠0 from hg)
     simp only[hn,Option.bind_some,R.bind_bad,step_inl,loopF_step,F.adjointref3_list_sum_l1,he.1,cond_false,step_inr]
     exact .inl ⟨q,⟨4,_,0,false,[],[],[t,a]⟩,rfl⟩
    | ok b j=>
     intro hn hg
     have hn:F.adjointref3_list_product self f0 X.x ((i+1:Nat):Int) dp=some (b,(j:Int),⟨0,0⟩):=hn
     have hj:=hg.2.1
     simp only[hn,Option.bind_some,R.bind_ok,step_inl,hw,hw2,eta_tree]
     exact sum_rL k ⟨4,X.tx i,0,false,[],[],[t,b]⟩ j (f+1) hj (by omega) (by omega)
theorem sum_r (i:Nat) (hi:i≤X.L.length):Rf ((pProd X S i).bind fun t i=>pChainL X (pProd X S) (isPM X) 64 t i) (F.adjointref3_list_sum self f0 X.x (i:Int) dp):=by
 unfold F.adjointref3_list_sum
 have hp:Rf (pProd X S i) _:=prod_r hf hR hG i hi
 have hg:=pProd_gd (X:=X) hG i hi
 revert hp hg
 cases pProd X S i with
 | bad e p=>
  rintro⟨a,q,hn⟩ hg
  have he:=ne_beq (show e≠0 from hg)
  obtain⟨f,ef⟩:∃f,f0=f+1:=⟨f0-1,by omega⟩
  have hl:∀x,loopF (F.adjointref3_list_sum_l1 self f0 X.x dp) f0 x=loopF (F.adjointref3_list_sum_l1 self f0 X.x dp) (f+1) x:=fun x=>by rw[←ef]
  simp only[hn,Option.bind_some,R.bind_bad,hl,loopF,F.adjointref3_list_sum_l1,he.1,cond_false,bindE]
  exact⟨_,_,rfl⟩
 | ok t j=>
  intro hn hg
  have hn:F.adjointref3_list_product self f0 X.x (i:Int) dp=some (t,(j:Int),⟨0,0⟩):=hn
  have hj:=hg.2.1
  have hl:=sum_rL (v7:=0) (g1:=0) (g2:=ByteArray.mk #[]) (g3:=0) (g4:=false) (g5:=[]) (g6:=[]) (g7:=[]) (g8:=0) (g9:=0) hf hR hG 64 t j f0 hj (Nat.le_refl _) (by simp only[Mx] at hf;omega)
  have e1:((65-64:Nat):Int)=1:=rfl
  rw[e1] at hl
  simp only[hn,Option.bind_some,R.bind_ok]
  revert hl
  cases pChainL X (pProd X S) (isPM X) 64 t j with
  | ok a q=>intro hl;simp only[hl,bindE,eta_tree];exact rfl
  | bad e p=>
   rintro(⟨q,a,hl⟩ | ⟨a,q,hl⟩)
   ·simp only[hl,bindE];exact⟨_,_,rfl⟩
   ·simp only[hl,bindE];exact⟨_,_,rfl⟩
end
end Go.DN
