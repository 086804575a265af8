/-
  Text, reading: the reference's part: expressions, functions, programs.
-/
import Derived.Test.YtaobkpnecfcefaaDoorUrB
set_option linter.unusedVariables false
set_option linter.unusedSimpArgs false
set_option linter.unusedSectionVars false
namespace Go.DN
open Go.AM
variable {X:Toks}{f0:Nat}
section
variable {self:Slist→Int→Int→Option (STree×Int×SFault)}{dp:Int}(hf:Mx+1<f0){S:Nat→R STree}(hR:∀i:Nat,i≤X.L.length→Rf (S i) (self X.x (i:Int) (IntKind.wrap .i64 (dp+1)))) (hG:∀i,i≤X.L.length→Gd X TOk i (S i))
include hf hR hG
theorem bound_r (k n:Int) (w:ByteArray) (hw:0<w.size) (i:Nat) (hi:i≤X.L.length):Rf (pBound X S k n w i) (F.adjointref3_list_bound self f0 X.x ⟨k,ByteArray.mk #[],n,false,[],[],[]⟩ (i:Int) w dp):=by
 have hz:=X.sz
 unfold F.adjointref3_list_bound pBound pName
 simp only[text_okR,bad_okR,Option.bind_some,name_okR (X:=X) (f0:=f0) (by omega) i,w1 (show i≤Mx by omega),w2 (show i≤Mx by omega)]
 cases h1:nm (X.tx i) with
 | false=>exact⟨_,_,rfl⟩
 | true=>
  have h2:=tx_lt (nm_ne h1)
  unfold pMust
  have hx:((X.tx (i+1)).toList==(ByteArray.mk #[61]).toList)=X.is (i+1) (ByteArray.mk #[61]):=rfl
  simp only[Bool.not_true,cond_false,if_pos,R.bind_ok]
  rw[hx]
  cases h3:X.is (i+1) (ByteArray.mk #[61]) with
  | false=>exact⟨_,_,rfl⟩
  | true=>
   have h4:=is_lt (by decide) h3
   have hp:=hR (i+2) h4
   have hg:=hG (i+2) h4
   simp only[Bool.not_true,cond_false,if_pos,R.bind_ok]
   revert hp hg
   cases S (i+1+1) with
   | bad e p=>
    rintro⟨a,q,hn⟩ hg
    simp only[hn,Option.bind_some,(ne_beq (show e≠0 from hg)).2,cond_true,R.bind_bad]
    exact⟨_,_,rfl⟩
   | ok a j=>
    intro hn hg
    have hn:self X.x ((i+2:Nat):Int) (IntKind.wrap .i64 (dp+1))=some (a,(j:Int),⟨0,0⟩):=hn
    have hj:=hg.2.1
    simp only[hn,Option.bind_some,e00.2,cond_false,R.bind_ok,text_okR,bad_okR,w1 (show j≤Mx by omega)]
    have hx:((X.tx j).toList==w.toList)=X.is j w:=rfl
    rw[hx]
    cases h5:X.is j w with
    | false=>exact⟨_,_,rfl⟩
    | true=>
     have h6:=is_lt hw h5
     have hp:=hR (j+1) h6
     simp only[Bool.not_true,cond_false,if_pos,R.bind_ok,eta_tree]
     revert hp
     cases S (j+1) with
     | bad e p=>rintro⟨a,q,hn⟩;simp only[hn,Option.bind_some,R.bind_bad];exact⟨_,_,rfl⟩
     | ok b q=>
      intro hn
      have hn:self X.x ((j+1:Nat):Int) (IntKind.wrap .i64 (dp+1))=some (b,(q:Int),⟨0,0⟩):=hn
      simp only[hn,Option.bind_some,R.bind_ok]
      exact rfl
theorem exprB_r (hd:dp≤64) (i:Nat) (hi:i≤X.L.length):Rf (pExprB X S i) (F.adjointref3_list_expr_b self f0 X.x (i:Int) dp):=by
 have hz:=X.sz
 have hc:decide (dp>64)=false:=decide_eq_false (by omega)
 unfold F.adjointref3_list_expr_b pExprB
 simp only[hc,cond_false,text_okR,Option.bind_some,isNumber_okR,bad_okR,w1 (show i≤Mx by omega),w2 (show i≤Mx by omega),eta_tree]
 have hx:((X.tx i).toList==(ByteArray.mk #[108,101,116]).toList)=X.is i (ByteArray.mk #[108,101,116]):=rfl
 have hx2:((X.tx i).toList==(ByteArray.mk #[114,101,112,101,97,116]).toList)=X.is i (ByteArray.mk #[114,101,112,101,97,116]):=rfl
 rw[hx,hx2]
 have fin:∀{r:R STree}{o:Option (STree×Int×SFault)},Rf r o→Rf r (o.bind fun x=>some (x.1,x.2.1,x.2.2)):=fun {r o} h=>by
  cases r with
  | ok a j=>have h:o=_:=h;rw[h];exact rfl
  | bad e p=>obtain⟨a,q,h⟩:=h;rw[h];exact⟨_,_,rfl⟩
 cases h1:X.is i (ByteArray.mk #[108,101,116]) with
 | true=>
  have h2:=is_lt (by decide) h1
  exact fin (bound_r hf hR hG 5 0 (ByteArray.mk #[105,110]) (by decide) (i+1) h2)
 | false=>
  simp only[cond_false,if_neg (show ¬(false=true) by decide)]
  cases h3:X.is i (ByteArray.mk #[114,101,112,101,97,116]) with
  | false=>exact fin (sum_r hf hR hG i hi)
  | true=>
   have h2:=is_lt (by decide) h3
   simp only[cond_true,if_pos]
   unfold pNumber
   cases h4:num (X.tx (i+1)) with
   | false=>exact⟨_,_,rfl⟩
   | true=>
    have h5:=tx_lt (num_ne h4).1
    simp only[Bool.not_true,cond_false,if_pos,R.bind_ok,val_okR (X:=X) (f0:=f0) (by omega) h4,Option.bind_some]
    exact fin (bound_r hf hR hG 6 _ (ByteArray.mk #[119,105,116,104]) (by decide) (i+2) h5)
end
theorem expr_r:∀(r fu:Nat),r≤64→Mx+1+r<fu→∀i:Nat,i≤X.L.length→Rf (pE X r i) (F.adjointref3_list_expr fu X.x (i:Int) ((65-r:Nat):Int))
 | 0,fu,_,hf,i,hi=>by
  obtain⟨f,rfl⟩:∃f,fu=f+1:=⟨fu-1,by omega⟩
  simp only[F.adjointref3_list_expr,F.adjointref3_list_expr_b]
  have hc:decide (((65-0:Nat):Int)>64)=true:=by decide
  rw[hc]
  simp only[cond_true,much_okR,Option.bind_some]
  exact⟨_,_,rfl⟩
 | r+1,fu,hr,hf,i,hi=>by
  obtain⟨f,rfl⟩:∃f,fu=f+1:=⟨fu-1,by omega⟩
  have hR:=expr_r r f (by omega) (by omega)
  have hw:IntKind.wrap .i64 (((65-(r+1):Nat):Int)+1)=((65-r:Nat):Int):=by
   rw[w1 (by simp only[Mx];omega)]
   congr 1
   omega
  rw[←hw] at hR
  exact exprB_r (X:=X) (self:=F.adjointref3_list_expr f) (f0:=f+1) (by omega) hR (fun i hi=>pE_gd r i hi) (by omega) i hi
section
variable (hf:Mx+1<f0)
include hf
theorem given_r {v3:List SGiven}{v4 m6 m7:Int}:∀(m i:Nat) (acc:List SGiven) (fu:Nat),i≤X.L.length→X.L.length-i<m→X.L.length-i<fu→acc.length+(X.L.length-i)≤Mx→
  (match pGivenL X m i acc with
   | .ok a j=>loopF (F.adjointref3_list_given_l1 f0 X.x) fu (v3,v4,(i:Int),m6,m7,acc)=some (.brk ((j:Int),m6,m7,a))
   | .bad e p=>∃a k,loopF (F.adjointref3_list_given_l1 f0 X.x) fu (v3,v4,(i:Int),m6,m7,acc)=some (.ret (a,k,⟨e,p⟩)))
 | 0,i,acc,fu,_,h,_,_=>by omega
 | m+1,i,acc,fu,hi,h,h2,h3=>by
  have hz:=X.sz
  obtain⟨f,rfl⟩:∃f,fu=f+1:=⟨fu-1,by omega⟩
  rw[loopF_step]
  simp only[F.adjointref3_list_given_l1,text_okR,bad_okR,Option.bind_some]
  have hx:((X.tx i).toList==(ByteArray.mk #[41]).toList)=X.is i (ByteArray.mk #[41]):=rfl
  have hx2:((X.tx i).toList==(ByteArray.mk #[44]).toList)=X.is i (ByteArray.mk #[44]):=rfl
  rw[hx,hx2]
  unfold pGivenL
  cases h4:X.is i (ByteArray.mk #[41]) with
  | true=>exact rfl
  | false=>
   simp only[Bool.not_false,cond_true,if_neg (show ¬(false=true) by decide)]
   have go:∀j:Nat,i≤j→j≤X.L.length→(match ((pName X j).bind fun s i=>(pMust X (ByteArray.mk #[58]) i).bind fun _ i=>(pShape X i).bind fun ds i=>pGivenL X m i (acc++[⟨s,ds⟩])) with
    | .ok a k=>loopStep (F.adjointref3_list_given_l1 f0 X.x) f ((F.adjointref3_list_text f0 X.x (j:Int)).bind fun (r17:ByteArray)=>
   (F.adjointref3_IsName f0 r17).bind fun (r18:Bool)=>
   cond (!r18)
    ((F.adjointref3_list_bad f0 X.x (j:Int)).bind fun (r19:SFault)=>
    some (.inr (.ret (([]:List SGiven),(j:Int),r19))))
    ((F.adjointref3_list_text f0 X.x (j:Int)).bind fun (r20:ByteArray)=>
    (F.adjointref3_list_text f0 X.x (IntKind.wrap .i64 ((j:Int)+1))).bind fun (r21:ByteArray)=>
    cond (!(r21.toList==(ByteArray.mk #[58]).toList))
     ((F.adjointref3_list_bad f0 X.x (IntKind.wrap .i64 ((j:Int)+1))).bind fun (r22:SFault)=>
      some (.inr (.ret (([]:List SGiven),(j:Int),r22))))
     ((F.adjointref3_list_shape f0 X.x (IntKind.wrap .i64 ((j:Int)+2))).bind fun ((r23,r24,r25):(List SDim)×Int×SFault)=>
      cond (r25.Err !=0)
       (some (.inr (.ret (([]:List SGiven),r24,r25))))
       ((chk (acc.length+[(⟨r20,r23⟩:SGiven)].length≤maxLen∧(acc.length+[(⟨r20,r23⟩:SGiven)].length)*40≤140737488355328)).bind fun _=>
       some (.inl (v3,v4,r24,m6,m7,acc++[(⟨r20,r23⟩:SGiven)]))))))=some (.brk ((k:Int),m6,m7,a))
    | .bad e p=>∃a k,loopStep (F.adjointref3_list_given_l1 f0 X.x) f ((F.adjointref3_list_text f0 X.x (j:Int)).bind fun (r17:ByteArray)=>
   (F.adjointref3_IsName f0 r17).bind fun (r18:Bool)=>
   cond (!r18)
    ((F.adjointref3_list_bad f0 X.x (j:Int)).bind fun (r19:SFault)=>
    some (.inr (.ret (([]:List SGiven),(j:Int),r19))))
    ((F.adjointref3_list_text f0 X.x (j:Int)).bind fun (r20:ByteArray)=>
    (F.adjointref3_list_text f0 X.x (IntKind.wrap .i64 ((j:Int)+1))).bind fun (r21:ByteArray)=>
    cond (!(r21.toList==(ByteArray.mk #[58]).toList))
     ((F.adjointref3_list_bad f0 X.x (IntKind.wrap .i64 ((j:Int)+1))).bind fun (r22:SFault)=>
      some (.inr (.ret (([]:List SGiven),(j:Int),r22))))
     ((F.adjointref3_list_shape f0 X.x (IntKind.wrap .i64 ((j:Int)+2))).bind fun ((r23,r24,r25):(List SDim)×Int×SFault)=>
      cond (r25.Err !=0)
       (some (.inr (.ret (([]:List SGiven),r24,r25))))
       ((chk (acc.length+[(⟨r20,r23⟩:SGiven)].length≤maxLen∧(acc.length+[(⟨r20,r23⟩:SGiven)].length)*40≤140737488355328)).bind fun _=>
       some (.inl (v3,v4,r24,m6,m7,acc++[(⟨r20,r23⟩:SGiven)]))))))=some (.ret (a,k,⟨e,p⟩))):=by
    intro j h5 h6
    unfold pName
    simp only[text_okR,bad_okR,Option.bind_some,name_okR (X:=X) (f0:=f0) (by omega) j,w1 (show j≤Mx by omega),w2 (show j≤Mx by omega)]
    cases h7:nm (X.tx j) with
    | false=>exact⟨_,_,rfl⟩
    | true=>
     have h8:=tx_lt (nm_ne h7)
     unfold pMust
     have hx:((X.tx (j+1)).toList==(ByteArray.mk #[58]).toList)=X.is (j+1) (ByteArray.mk #[58]):=rfl
     simp only[Bool.not_true,cond_false,if_pos,R.bind_ok]
     rw[hx]
     cases h9:X.is (j+1) (ByteArray.mk #[58]) with
     | false=>exact⟨_,_,rfl⟩
     | true=>
      have h10:=is_lt (by decide) h9
      have hs:=shape_r (X:=X) (f0:=f0) (by omega) (j+2) h10
      have hg:=pShape_gd (X:=X) (j+2)
      simp only[Bool.not_true,cond_false,if_pos,R.bind_ok]
      revert hs hg
      cases pShape X (j+1+1) with
      | bad e p=>
       rintro⟨a,q,hn⟩ hg
       simp only[hn,Option.bind_some,(ne_beq (show e≠0 from hg)).2,cond_true,R.bind_bad]
       exact⟨_,_,rfl⟩
      | ok ds k=>
       intro hn hg
       have hn:F.adjointref3_list_shape f0 X.x ((j+2:Nat):Int)=some (ds,(k:Int),⟨0,0⟩):=hn
       have h11:=hg.1
       simp only[hn,Option.bind_some,e00.2,cond_false,R.bind_ok,app_chk (show acc.length≤Mx by omega) (show 40≤1000 by decide),step_inl]
       exact given_r m k _ f hg.2.1 (by omega) (by omega) (by simp;omega)
   by_cases h5:0<acc.length
   ·have hd:decide ((acc.length:Int)>0)=true:=decide_eq_true (by omega)
    unfold pMust
    rw[hd,if_pos h5]
    cases h6:X.is i (ByteArray.mk #[44]) with
    | false=>exact⟨_,_,rfl⟩
    | true=>
     have h7:=is_lt (by decide) h6
     have e2:=go (i+1) (by omega) h7
     simp only[Bool.not_true,cond_false,cond_true,if_pos,R.bind_ok,w1 (show i≤Mx by omega),bindE]
     exact e2
   ·have hd:decide ((acc.length:Int)>0)=false:=decide_eq_false (by omega)
    rw[hd,if_neg h5]
    exact go i (Nat.le_refl _) hi
end
theorem func_r (hf:Mx+1+64<f0) (i:Nat) (hi:i≤X.L.length):Rf (pFunc X i) (F.adjointref3_list_function f0 X.x (i:Int)):=by
 have hz:=X.sz
 unfold F.adjointref3_list_function pFunc
 simp only[text_okR,bad_okR,Option.bind_some,w1 (show i≤Mx by omega),w2 (show i≤Mx by omega),w3 (show i≤Mx by omega),name_okR (X:=X) (f0:=f0) (by omega) (i+1)]
 have x1:((X.tx i).toList==(ByteArray.mk #[102,110]).toList)=X.is i (ByteArray.mk #[102,110]):=rfl
 have x2:((X.tx (i+2)).toList==(ByteArray.mk #[40]).toList)=X.is (i+2) (ByteArray.mk #[40]):=rfl
 rw[x1,x2]
 unfold pMust pName
 cases h1:X.is i (ByteArray.mk #[102,110]) with
 | false=>exact⟨_,_,rfl⟩
 | true=>
  simp only[Bool.not_true,cond_false,if_pos,R.bind_ok]
  cases h2:nm (X.tx (i+1)) with
  | false=>exact⟨_,_,rfl⟩
  | true=>
   simp only[Bool.not_true,cond_false,if_pos,R.bind_ok]
   have e2:i+1+1=i+2:=rfl
   rw[e2]
   cases h3:X.is (i+2) (ByteArray.mk #[40]) with
   | false=>exact⟨_,_,rfl⟩
   | true=>
    have h4:=is_lt (by decide) h3
    simp only[Bool.not_true,cond_false,if_pos,R.bind_ok]
    have e3:i+2+1=i+3:=rfl
    rw[e3]
    unfold F.adjointref3_list_given
    have hn:=given_r (X:=X) (f0:=f0) (v3:=[]) (v4:=0) (m6:=0) (m7:=0) (by omega) (X.L.length-(i+3)+1) (i+3) [] f0 h4 (by omega) (by omega) (by simp;omega)
    have he:=pGivenL_end (X:=X) (X.L.length-(i+3)+1) (i+3) []
    have hg:=pGivenL_ge (X:=X) (X.L.length-(i+3)+1) (i+3) [] h4 (by simp;omega) (fun x h=>by cases h)
    revert hn he hg
    cases pGivenL X (X.L.length-(i+3)+1) (i+3) [] with
    | bad e p=>
     rintro⟨a,q,hn⟩ _ hg
     simp only[hn,bindE,Option.bind_some,(ne_beq (show e≠0 from hg)).2,cond_true,R.bind_bad]
     exact⟨_,_,rfl⟩
    | ok g j=>
     intro hn he hg
     have h5:=is_lt (by decide) (he _ _ rfl)
     simp only[hn,bindE,Option.bind_some,e00.2,cond_false,R.bind_ok,w1 (show j≤Mx by omega),text_okR,bad_okR]
     have x3:((X.tx (j+1)).toList==(ByteArray.mk #[61]).toList)=X.is (j+1) (ByteArray.mk #[61]):=rfl
     rw[x3]
     cases h6:X.is (j+1) (ByteArray.mk #[61]) with
     | false=>exact⟨_,_,rfl⟩
     | true=>
      have h7:=is_lt (by decide) h6
      simp only[Bool.not_true,cond_false,if_pos,R.bind_ok,w1 (show j+1≤Mx by omega)]
      have hp:=expr_r (X:=X) 64 f0 (Nat.le_refl _) hf (j+1+1) h7
      have hg:=pE_gd (X:=X) 64 (j+1+1) h7
      have e1:((65-64:Nat):Int)=1:=rfl
      rw[e1] at hp
      revert hp hg
      cases pE X 64 (j+1+1) with
      | bad e p=>
       rintro⟨a,q,hn⟩ hg
       simp only[hn,Option.bind_some,(ne_beq (show e≠0 from hg)).1,cond_false,R.bind_bad]
       exact⟨_,_,rfl⟩
      | ok t k=>
       intro hn hg
       have hn:F.adjointref3_list_expr f0 X.x ((j+1+1:Nat):Int) 1=some (t,(k:Int),⟨0,0⟩):=hn
       have hk:=hg.2.1
       simp only[hn,Option.bind_some,e00.1,cond_true,R.bind_ok,text_okR,bad_okR,eta_tree,w1 (show k≤Mx by omega)]
       have x4:((X.tx k).toList==(ByteArray.mk #[59]).toList)=X.is k (ByteArray.mk #[59]):=rfl
       rw[x4]
       cases h8:X.is k (ByteArray.mk #[59]) with
       | true=>exact rfl
       | false=>exact⟨_,_,rfl⟩
theorem eta_func (f:SFunc):(⟨f.Name,f.Given,(⟨f.Body.Kind,f.Body.Name,f.Body.Number,f.Body.Shaped,f.Body.Shape,f.Body.Lists,f.Body.Kids⟩:STree)⟩:SFunc)=f:=by
 cases f with
 | mk n g b=>cases b;rfl
theorem prog_r {s:ByteArray}(he:X.en=(s.size:Int)){v5:List SFunc}{m8 m9:Int}(hf:Mx+1+64<f0):∀(m i:Nat) (acc:List SFunc) (fu:Nat),i≤X.L.length→X.L.length-i<m→X.L.length-i<fu→acc.length+(X.L.length-i)≤Mx→
  (match pProg X m i acc with
   | .ok a _=>∃x y,loopF (F.adjointref3_Read_l1 f0 s X.L) fu ((i:Int),v5,0,0,m8,m9,acc)=some (.brk (x,y,m8,m9,a))
   | .bad e p=>loopF (F.adjointref3_Read_l1 f0 s X.L) fu ((i:Int),v5,0,0,m8,m9,acc)=some (.ret ([],⟨e,p⟩)))
 | 0,i,acc,fu,_,h,_,_=>by omega
 | m+1,i,acc,fu,hi,h,h2,h3=>by
  obtain⟨f,rfl⟩:∃f,fu=f+1:=⟨fu-1,by omega⟩
  rw[loopF_step]
  have hx:(⟨X.L,(s.size:Int)⟩:Slist)=X.x:=by unfold Toks.x;rw[he]
  simp only[F.adjointref3_Read_l1,hx,eta_func]
  unfold pProg
  by_cases h4:i<X.L.length
  ·have hd:decide ((i:Int)<(X.L.length:Int))=true:=decide_eq_true (by omega)
   rw[hd,if_pos h4]
   have hn:=func_r (X:=X) hf i hi
   have hg:=pFunc_gd (X:=X) i
   revert hn hg
   cases pFunc X i with
   | bad e p=>
    rintro⟨a,q,hn⟩ hg
    simp only[hn,Option.bind_some,cond_true,(ne_beq (show e≠0 from hg)).2,step_inr]
    rfl
   | ok a j=>
    intro hn hg
    have hn:F.adjointref3_list_function f0 X.x (i:Int)=some (a,(j:Int),⟨0,0⟩):=hn
    have hg1:=hg.1
    simp only[hn,Option.bind_some,cond_true,e00.2,cond_false,app_chk (show acc.length≤Mx by omega) (show 152≤1000 by decide),step_inl,R.bind_ok]
    exact prog_r he hf m j _ f hg.2.1 (by omega) (by omega) (by simp;omega)
  ·have hd:decide ((i:Int)<(X.L.length:Int))=false:=decide_eq_false (by omega)
   rw[hd,if_neg h4]
   exact⟨_,_,rfl⟩
end Go.DN
