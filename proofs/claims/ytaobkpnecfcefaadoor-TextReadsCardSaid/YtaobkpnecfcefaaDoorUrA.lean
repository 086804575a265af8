/-
  Text, reading: the reference's part: shapes, numbers, lists.
-/
import Derived.Test.YtaobkpnecfcefaaDoorUqC
set_option linter.unusedVariables false
set_option linter.unusedSimpArgs false
set_option linter.unusedSectionVars false
namespace Go.DN
open Go.AM
theorem w1 {i:Nat}(h:i≤Mx):IntKind.wrap .i64 ((i:Int)+1)=((i+1:Nat):Int):=wrap_succ (n:=i+1) (by omega) (by simp only[Mx] at h;omega)
theorem w2 {i:Nat}(h:i≤Mx):IntKind.wrap .i64 ((i:Int)+2)=((i+2:Nat):Int):=by
 have:=wrap_succ (k:=i+1) (n:=i+2) (by omega) (by simp only[Mx] at h;omega)
 have e:((i+1:Nat):Int)+1=(i:Int)+2:=by omega
 rw[e] at this
 exact this
theorem w3 {i:Nat}(h:i≤Mx):IntKind.wrap .i64 ((i:Int)+3)=((i+3:Nat):Int):=by
 have:=wrap_succ (k:=i+2) (n:=i+3) (by omega) (by simp only[Mx] at h;omega)
 have e:((i+2:Nat):Int)+1=(i:Int)+3:=by omega
 rw[e] at this
 exact this
def Toks.x (X:Toks):Slist:=⟨X.L,X.en⟩
variable {X:Toks}{f0:Nat}
theorem ge_none {i:Nat}(h:X.L[i]?=none):(i:Int)≥(X.x.l.length:Int):=by
 have:X.L.length≤i:=by simpa using h
 show(X.L.length:Int)≤i
 omega
theorem ge_some {i:Nat}{t:SToken}(h:X.L[i]?=some t):¬(i:Int)≥(X.x.l.length:Int):=by
 have:=get_lt h
 show ¬(X.L.length:Int)≤i
 omega
theorem text_okR (fu i:Nat):F.adjointref3_list_text fu X.x (i:Int)=some (X.tx i):=by
 unfold F.adjointref3_list_text Toks.tx
 cases h:X.L[i]? with
 | none=>
  have:decide ((i:Int)≥(X.x.l.length:Int))=true:=decide_eq_true (ge_none h)
  rw[this];rfl
 | some t=>
  have:decide ((i:Int)≥(X.x.l.length:Int))=false:=decide_eq_false (ge_some h)
  rw[this]
  have hi:idx X.x.l (i:Int)=some t:=idx_nat h
  simp only[cond_false,hi,Option.bind_some]
theorem bad_okR (fu i:Nat):F.adjointref3_list_bad fu X.x (i:Int)=some ⟨7,X.at_ i⟩:=by
 unfold F.adjointref3_list_bad Toks.at_
 cases h:X.L[i]? with
 | none=>
  have:decide ((i:Int)≥(X.x.l.length:Int))=true:=decide_eq_true (ge_none h)
  rw[this];rfl
 | some t=>
  have:decide ((i:Int)≥(X.x.l.length:Int))=false:=decide_eq_false (ge_some h)
  rw[this]
  have hi:idx X.x.l (i:Int)=some t:=idx_nat h
  simp only[cond_false,hi,Option.bind_some]
theorem much_okR (fu i:Nat):F.adjointref3_list_much fu X.x (i:Int)=some ⟨5,X.at_ i⟩:=by
 unfold F.adjointref3_list_much
 rw[bad_okR];rfl
theorem isNumber_okR (fu i:Nat):F.adjointref3_list_isNumber fu X.x (i:Int)=some (num (X.tx i)):=by
 unfold F.adjointref3_list_isNumber num
 simp only[text_okR,Option.bind_some]
 rw[empty_iff]
 by_cases h0:(X.tx i).size=0
 ·simp only[h0,decide_true,Bool.not_true,cond_false,Option.bind_some,Bool.false_and]
 ·obtain⟨c,h1,h2⟩:=ch_get (s:=X.tx i) (i:=0) (by omega)
  have h1:bidx (X.tx i) 0=some c:=h1
  have hd:decide ((X.tx i).size=0)=false:=decide_eq_false h0
  simp only[hd,Bool.not_false,cond_true,h1,Option.bind_some,isDigit_ok,h2,Bool.true_and]
def Rf {α:Type}(r:R α) (o:Option (α×Int×SFault)):Prop:=match r with
 | .ok a i=>o=some (a,(i:Int),⟨0,0⟩)
 | .bad e p=>∃a i,o=some (a,i,⟨e,p⟩)
section
variable (hf:Mx<f0)
include hf
theorem val_okR {i:Nat}(h:num (X.tx i)=true):F.adjointref3_Value f0 (X.tx i)=some (val (X.tx i),true):=by
 obtain⟨h0,h1⟩:=num_ne h
 obtain⟨h2,h3⟩:=tx_num h0 h1
 exact value_val (tx_sz i) (by have:=tx_sz (X:=X) i;omega) h2 h3
theorem name_okR (i:Nat):F.adjointref3_IsName f0 (X.tx i)=some (nm (X.tx i)):=isName_ok (tx_sz i) (by have:=tx_sz (X:=X) i;omega)
theorem shapeL_r {v5:List SDim}{v6 m8 m9:Int}:∀(m i:Nat) (acc:List SDim) (fu:Nat),X.L.length-i<m→X.L.length-i<fu→acc.length+(X.L.length-i)≤Mx→
  (match pShapeL X m i acc with
   | .ok a j=>∃k:Nat,j=k+1∧loopF (F.adjointref3_list_shape_l1 f0 X.x) fu (v5,v6,(i:Int),m8,m9,acc)=some (.brk ((k:Int),m8,m9,a))
   | .bad e p=>∃a k,loopF (F.adjointref3_list_shape_l1 f0 X.x) fu (v5,v6,(i:Int),m8,m9,acc)=some (.ret (a,k,⟨e,p⟩)))
 | 0,i,acc,fu,h,_,_=>by omega
 | m+1,i,acc,fu,h,h2,h3=>by
  have hz:=X.sz
  obtain⟨f,rfl⟩:∃f,fu=f+1:=⟨fu-1,by omega⟩
  rw[loopF_step]
  simp only[F.adjointref3_list_shape_l1,text_okR,isNumber_okR,bad_okR,Option.bind_some]
  have hx:((X.tx i).toList==(ByteArray.mk #[93]).toList)=X.is i (ByteArray.mk #[93]):=rfl
  rw[hx]
  unfold pShapeL
  cases h4:X.is i (ByteArray.mk #[93]) with
  | true=>exact⟨i,rfl,rfl⟩
  | false=>
   simp only[Bool.not_false,cond_true,if_neg (show ¬(false=true) by decide)]
   cases h5:num (X.tx i) with
   | true=>
    have h6:=tx_lt (num_ne h5).1
    simp only[cond_true,val_okR hf h5,Option.bind_some,app_chk (show acc.length≤Mx by omega) (show 24≤1000 by decide),bindE,if_pos,w1 (show i≤Mx by omega),step_inl]
    exact shapeL_r m (i+1) _ f (by omega) (by omega) (by simp;omega)
   | false=>
    simp only[cond_false,name_okR hf i,Option.bind_some,if_neg (show ¬(false=true) by decide)]
    cases h6:nm (X.tx i) with
    | true=>
     have h7:=tx_lt (nm_ne h6)
     simp only[cond_true,Option.bind_some,app_chk (show acc.length≤Mx by omega) (show 24≤1000 by decide),bindE,if_pos,w1 (show i≤Mx by omega),step_inl]
     exact shapeL_r m (i+1) _ f (by omega) (by omega) (by simp;omega)
    | false=>exact⟨_,_,rfl⟩
theorem shape_r (i:Nat) (hi:i≤X.L.length):Rf (pShape X i) (F.adjointref3_list_shape f0 X.x (i:Int)):=by
 have hz:=X.sz
 unfold F.adjointref3_list_shape pShape pMust
 simp only[text_okR,bad_okR,Option.bind_some,w1 (show i≤Mx by omega)]
 have hx:((X.tx i).toList==(ByteArray.mk #[91]).toList)=X.is i (ByteArray.mk #[91]):=rfl
 rw[hx]
 cases h4:X.is i (ByteArray.mk #[91]) with
 | false=>exact⟨_,_,rfl⟩
 | true=>
  have h5:=is_lt (by decide) h4
  simp only[Bool.not_true,cond_false,if_pos,R.bind_ok]
  have h:=shapeL_r (X:=X) hf (v5:=[]) (v6:=0) (m8:=0) (m9:=0) (X.L.length-(i+1)+1) (i+1) [] f0 (by omega) (by omega) (by simp;omega)
  have hg:=pShapeL_gd (X:=X) (X.L.length-(i+1)+1) (i+1) [] (by simp;omega)
  revert h hg
  cases pShapeL X (X.L.length-(i+1)+1) (i+1) [] with
  | ok a j=>
   rintro⟨k,rfl,h⟩ hg
   have hg:=hg.2.1
   rw[h]
   simp only[bindE,w1 (show k≤Mx by omega)]
   rfl
  | bad e p=>rintro⟨a,k,h⟩ hg;rw[h];exact⟨a,k,rfl⟩
theorem numsL_r {v3:List Int}{v4 m6 m7:Int}:∀(m i:Nat) (acc:List Int) (fu:Nat),X.L.length-i<m→X.L.length-i<fu→acc.length+(X.L.length-i)≤Mx→
  (match pNumsL X m i acc with
   | .ok a j=>∃k:Nat,j=k+1∧loopF (F.adjointref3_list_numbers_l1 f0 X.x) fu (v3,v4,(i:Int),m6,m7,acc)=some (.brk ((k:Int),m6,m7,a))
   | .bad e p=>∃a k,loopF (F.adjointref3_list_numbers_l1 f0 X.x) fu (v3,v4,(i:Int),m6,m7,acc)=some (.ret (a,k,⟨e,p⟩)))
 | 0,i,acc,fu,h,_,_=>by omega
 | m+1,i,acc,fu,h,h2,h3=>by
  have hz:=X.sz
  obtain⟨f,rfl⟩:∃f,fu=f+1:=⟨fu-1,by omega⟩
  rw[loopF_step]
  simp only[F.adjointref3_list_numbers_l1,text_okR,isNumber_okR,bad_okR,Option.bind_some]
  have hx:((X.tx i).toList==(ByteArray.mk #[125]).toList)=X.is i (ByteArray.mk #[125]):=rfl
  rw[hx]
  unfold pNumsL
  cases h4:X.is i (ByteArray.mk #[125]) with
  | true=>exact⟨i,rfl,rfl⟩
  | false=>
   simp only[Bool.not_false,cond_true,if_neg (show ¬(false=true) by decide)]
   cases h5:num (X.tx i) with
   | true=>
    have h6:=tx_lt (num_ne h5).1
    simp only[Bool.not_true,cond_false,val_okR hf h5,Option.bind_some,app_chk (show acc.length≤Mx by omega) (show 8≤1000 by decide),if_pos,w1 (show i≤Mx by omega),step_inl]
    exact numsL_r m (i+1) _ f (by omega) (by omega) (by simp;omega)
   | false=>exact⟨_,_,rfl⟩
theorem nums_r (i:Nat) (h4:X.is i (ByteArray.mk #[123])=true):Rf (pNums X i) (F.adjointref3_list_numbers f0 X.x (i:Int)):=by
 have hz:=X.sz
 have h5:=is_lt (by decide) h4
 unfold F.adjointref3_list_numbers pNums pMust
 simp only[w1 (show i≤Mx by omega),h4,if_pos,R.bind_ok]
 have h:=numsL_r (X:=X) hf (v3:=[]) (v4:=0) (m6:=0) (m7:=0) (X.L.length-(i+1)+1) (i+1) [] f0 (by omega) (by omega) (by simp;omega)
 have hg:=pNumsL_gd (X:=X) (X.L.length-(i+1)+1) (i+1) [] (by simp;omega)
 revert h hg
 cases pNumsL X (X.L.length-(i+1)+1) (i+1) [] with
 | ok a j=>
  rintro⟨k,rfl,h⟩ hg
  have hg:=hg.2.1
  rw[h]
  simp only[bindE,w1 (show k≤Mx by omega)]
  rfl
 | bad e p=>rintro⟨a,k,h⟩ hg;rw[h];exact⟨a,k,rfl⟩
end
section
variable {self:Slist→Int→Int→Option (STree×Int×SFault)}(hf:Mx+1<f0)
include hf
theorem lists_r {c1:Int}{c2:ByteArray}{c3:Int}{c4:Bool}{c5:List SDim}:∀(m i:Nat) (acc:List (List Int)) (fu:Nat),i≤X.L.length→X.L.length-i<m→X.L.length-i+1<fu→acc.length+(X.L.length-i)≤Mx→
  (match pLists X m i acc with
   | .ok a j=>loopF (F.adjointref3_list_call_l1 self f0 X.x) fu ((i:Int),0,0,acc,c1,c2,c3,c4,c5)=some ((j:Int),0,0,a,c1,c2,c3,c4,c5)
   | .bad e p=>∃k a,loopF (F.adjointref3_list_call_l1 self f0 X.x) fu ((i:Int),0,0,acc,c1,c2,c3,c4,c5)=some (k,e,p,a,c1,c2,c3,c4,c5))
 | 0,i,acc,fu,_,h,_,_=>by omega
 | m+1,i,acc,fu,hi,h,h2,h3=>by
  have hz:=X.sz
  obtain⟨f,rfl⟩:∃f,fu=f+2:=⟨fu-2,by omega⟩
  rw[loopF_step]
  have e0:((0:Int)==0)=true:=rfl
  simp only[F.adjointref3_list_call_l1,text_okR,Option.bind_some,e0,cond_true]
  have hx:((X.tx i).toList==(ByteArray.mk #[123]).toList)=X.is i (ByteArray.mk #[123]):=rfl
  rw[hx]
  unfold pLists
  cases h4:X.is i (ByteArray.mk #[123]) with
  | false=>exact rfl
  | true=>
   have hn:=nums_r (X:=X) (f0:=f0) (by omega) i h4
   have hg:=pNums_gd (X:=X) i
   simp only[cond_true,if_pos]
   revert hn hg
   cases pNums X i with
   | bad e p=>
    rintro⟨a,k,hn⟩ hg
    have he:(e==0)=false:=by simpa using (show e≠0 from hg)
    simp only[hn,Option.bind_some,app_chk (show acc.length≤Mx by omega) (show 24≤1000 by decide),step_inl]
    refine⟨k,acc++[a],?_⟩
    rw[loopF_step]
    simp only[F.adjointref3_list_call_l1,he,cond_false,Option.bind_some,step_inr]
   | ok a j=>
    intro hn hg
    have hn:F.adjointref3_list_numbers f0 X.x (i:Int)=some (a,(j:Int),⟨0,0⟩):=hn
    have h5:=hg.1
    have h6:=hg.2.1
    simp only[hn,Option.bind_some,app_chk (show acc.length≤Mx by omega) (show 24≤1000 by decide),step_inl,R.bind_ok]
    exact lists_r m j _ (f+1) h6 (by omega) (by omega) (by simp;omega)
variable {S:Nat→R STree}{dp:Int}(hR:∀i:Nat,i≤X.L.length→Rf (S i) (self X.x (i:Int) (IntKind.wrap .i64 (dp+1)))) (hG:∀i,i≤X.L.length→Gd X TOk i (S i))
include hR hG
theorem kids_r {v48:Int}{g1 g2:Int}{g3:ByteArray}{g4:Int}{g5:Bool}{g6:List SDim}{g7:List (List Int)}{g8:List STree}{g9 g10:Int}{ls:List (List Int)}{c1:Int}{c2:ByteArray}{c3:Int}{c4:Bool}{c5:List SDim}:∀(m i:Nat) (acc:List STree) (fu:Nat),i≤X.L.length→X.L.length-i<m→X.L.length-i<fu→acc.length+(X.L.length-i)≤Mx→
  (match pKids X S m i acc with
   | .ok a j=>loopF (F.adjointref3_list_call_l2 self f0 X.x dp ls) fu (v48,(i:Int),g2,g3,g4,g5,g6,g7,g8,g9,g10,0,0,acc,c1,c2,c3,c4,c5)=some (.brk ((j:Int),g2,g3,g4,g5,g6,g7,g8,g9,g10,0,0,a,c1,c2,c3,c4,c5))
   | .bad e p=>∃k a,loopF (F.adjointref3_list_call_l2 self f0 X.x dp ls) fu (v48,(i:Int),g2,g3,g4,g5,g6,g7,g8,g9,g10,0,0,acc,c1,c2,c3,c4,c5)=some (.ret (c1,c2,c3,c4,c5,k,⟨e,p⟩,ls,a)))
 | 0,i,acc,fu,_,h,_,_=>by omega
 | m+1,i,acc,fu,hi,h,h2,h3=>by
  have hz:=X.sz
  obtain⟨f,rfl⟩:∃f,fu=f+1:=⟨fu-1,by omega⟩
  rw[loopF_step]
  simp only[F.adjointref3_list_call_l2,text_okR,bad_okR,Option.bind_some,eta_tree]
  have hx:((X.tx i).toList==(ByteArray.mk #[41]).toList)=X.is i (ByteArray.mk #[41]):=rfl
  have hx2:((X.tx i).toList==(ByteArray.mk #[44]).toList)=X.is i (ByteArray.mk #[44]):=rfl
  rw[hx,hx2]
  unfold pKids
  cases h4:X.is i (ByteArray.mk #[41]) with
  | true=>exact rfl
  | false=>
   simp only[Bool.not_false,cond_true,if_neg (show ¬(false=true) by decide)]
   have hself:∀j:Nat,i≤j→j≤X.L.length→(S j=S j)∧((∃a k,S j=.ok a k∧j<k∧k≤X.L.length∧self X.x (j:Int) (IntKind.wrap .i64 (dp+1))=some (a,(k:Int),⟨0,0⟩))∨∃e p a k,S j=.bad e p∧(e !=0)=true∧self X.x (j:Int) (IntKind.wrap .i64 (dp+1))=some (a,k,⟨e,p⟩)):=by
    intro j h5 h6
    have hp:=hR j h6
    have hg:=hG j h6
    refine⟨rfl,?_⟩
    revert hp hg
    cases S j with
    | bad e p=>
     rintro⟨a,k,hn⟩ hg
     exact .inr ⟨e,p,a,k,rfl,by simpa using (show e≠0 from hg),hn⟩
    | ok a k=>
     intro hn hg
     exact .inl ⟨a,k,rfl,hg.1,hg.2.1,hn⟩
   have e0:((0:Int) !=0)=false:=rfl
   by_cases h5:0<acc.length
   ·have hd:decide ((acc.length:Int)>0)=true:=decide_eq_true (by omega)
    unfold pMust
    rw[hd,if_pos h5]
    cases h6:X.is i (ByteArray.mk #[44]) with
    | false=>exact⟨_,_,rfl⟩
    | true=>
     have h7:=is_lt (by decide) h6
     simp only[Bool.not_true,cond_false,cond_true,if_pos,R.bind_ok,w1 (show i≤Mx by omega),bindE]
     rcases(hself (i+1) (by omega) h7).2 with ⟨a,k,h8,h9,h10,hn⟩ | ⟨e,p,a,k,h8,h9,hn⟩
     ·simp only[hn,h8,Option.bind_some,R.bind_ok,e0,cond_false,app_chk (show acc.length≤Mx by omega) (show 112≤1000 by decide),step_inl]
      exact kids_r (g1:=g1) m k _ f h10 (by omega) (by omega) (by simp;omega)
     ·simp only[hn,h8,Option.bind_some,R.bind_bad,h9,cond_true]
      exact⟨_,_,rfl⟩
   ·have hd:decide ((acc.length:Int)>0)=false:=decide_eq_false (by omega)
    rw[hd,if_neg h5]
    simp only[cond_false,R.bind_ok,bindE]
    rcases(hself i (Nat.le_refl _) hi).2 with ⟨a,k,h8,h9,h10,hn⟩ | ⟨e,p,a,k,h8,h9,hn⟩
    ·simp only[hn,h8,Option.bind_some,R.bind_ok,e0,cond_false,app_chk (show acc.length≤Mx by omega) (show 112≤1000 by decide),step_inl]
     exact kids_r (g1:=g1) m k _ f h10 (by omega) (by omega) (by simp;omega)
    ·simp only[hn,h8,Option.bind_some,R.bind_bad,h9,cond_true]
     exact⟨_,_,rfl⟩
end
end Go.DN
