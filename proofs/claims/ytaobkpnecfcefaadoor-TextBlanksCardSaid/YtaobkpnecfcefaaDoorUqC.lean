/-
  Text, reading: the program's part: shapes, numbers, factors.
-/
import Derived.Test.YtaobkpnecfcefaaDoorUqB
set_option linter.unusedVariables false
set_option linter.unusedSimpArgs false
set_option linter.unusedSectionVars false
namespace Go.DN
open Go.AM
theorem app_chk {α:Type}{a:List α}{x:α}{k:Nat}(h:a.length≤Mx) (hk:k≤1000):chk (a.length+[x].length≤maxLen∧(a.length+[x].length)*k≤140737488355328)=some ():=by
 refine chk_pos ⟨?_,?_⟩
 ·simp only[List.length_singleton,maxLen,Mx] at *;omega
 ·have h1:(a.length+[x].length)*k≤65537*1000:=Nat.mul_le_mul (by simp only[List.length_singleton,Mx] at *;omega) hk
  omega
theorem R.bind_ok {α β:Type}{a:α}{i:Nat}{f:α→Nat→R β}:(R.ok a i).bind f=f a i:=rfl
theorem R.bind_bad {α β:Type}{e p:Int}{f:α→Nat→R β}:(R.bad e p:R α).bind f=.bad e p:=rfl
def loopStep {σ ρ:Type}(body:σ→Option (σ⊕ρ)) (n:Nat) (o:Option (σ⊕ρ)):Option ρ:=match o with
 | some (.inl x)=>loopF body n x
 | some (.inr r)=>some r
 | none=>none
theorem loopF_step {σ ρ:Type}{body:σ→Option (σ⊕ρ)}{n:Nat}{x:σ}:loopF body (n+1) x=loopStep body n (body x):=rfl
theorem step_inl {σ ρ:Type}{body:σ→Option (σ⊕ρ)}{n:Nat}{x:σ}:loopStep body n (some (.inl x))=loopF body n x:=rfl
theorem step_inr {σ ρ:Type}{body:σ→Option (σ⊕ρ)}{n:Nat}{r:ρ}:loopStep body n (some (.inr r))=some r:=rfl
def Lp {α β γ:Type}(X:Toks) (d:Int) (b:α→Nat→β) (r:R α) (o:Option (Ex β (γ⊕((Int×Int)×((List SToken)×Int×Int))))):Prop:=match r with
 | .ok a j=>o=some (.brk (b a j))
 | .bad e p=>∃l,o=some (.ret (.inr ((e,p),(l,X.en,d))))
theorem eta_tree (t:STree):(⟨t.Kind,t.Name,t.Number,t.Shaped,t.Shape,t.Lists,t.Kids⟩:STree)=t:=by cases t;rfl
abbrev Rp (α:Type):=(α×(List SToken)×Int×Int)⊕((Int×Int)×((List SToken)×Int×Int))
variable {X:Toks}{d:Int}{f0:Nat}
section
variable (hf:Mx<f0)
include hf
theorem shapeL_p:∀(m i:Nat) (acc:List SDim) (fu:Nat),X.L.length-i<m→X.L.length-i<fu→acc.length+(X.L.length-i)≤Mx→
  ∃e,loopF (F.text_reader_shape_l1 f0) fu (X.L.drop i,X.en,d,acc)=some e∧(match pShapeL X m i acc with
   | .ok a j=>e=.brk (X.L.drop j,X.en,d,a)
   | .bad e' p=>∃l,e=.ret (.inr ((e',p),(l,X.en,d))))
 | 0,i,acc,fu,h,_,_=>by omega
 | m+1,i,acc,fu,h,h2,h3=>by
  obtain⟨f,rfl⟩:∃f,fu=f+1:=⟨fu-1,by omega⟩
  simp only[loopF,F.text_reader_shape_l1]
  rw[is_ok f0 i d (w:=ByteArray.mk #[93]) (by decide)]
  unfold pShapeL
  cases h4:X.is i (ByteArray.mk #[93]) with
  | true=>exact⟨_,rfl,rfl⟩
  | false=>
   simp only[Option.bind_some,Bool.not_false,cond_true,if_neg (show ¬(false=true) by decide)]
   rw[isNumber_ok]
   cases h5:num (X.tx i) with
   | true=>
    have h6:=tx_lt (num_ne h5).1
    have hn:=number_ok (X:=X) f0 i d
    unfold pNumber at hn
    rw[h5,if_pos rfl] at hn
    simp only[Option.bind_some,cond_true,hn.2,bindP,app_chk (show acc.length≤Mx by omega) (show 24≤1000 by decide),bindE,if_pos]
    exact shapeL_p m (i+1) _ f (by omega) (by omega) (by simp;omega)
   | false=>
    have hn:=name_ok (X:=X) hf i d
    unfold pName at hn
    cases h6:nm (X.tx i) with
    | true=>
     have h7:=tx_lt (nm_ne h6)
     rw[h6,if_pos rfl] at hn
     simp only[Option.bind_some,cond_false,hn.2,bindP,app_chk (show acc.length≤Mx by omega) (show 24≤1000 by decide),bindE,if_neg (show ¬(false=true) by decide),if_pos]
     exact shapeL_p m (i+1) _ f (by omega) (by omega) (by simp;omega)
    | false=>
     rw[h6,if_neg (by decide)] at hn
     obtain⟨_,l,hn⟩:=hn
     simp only[Option.bind_some,cond_false,hn,bindP,bindE,if_neg (show ¬(false=true) by decide)]
     exact⟨_,rfl,l,rfl⟩
theorem shape_p (i:Nat):Pr X d (pShape X i) (F.text_reader_shape f0 (X.L.drop i) X.en d):=by
 have hz:=X.sz
 have hg:=pShape_gd (X:=X) i
 unfold F.text_reader_shape
 unfold pShape at hg⊢
 have hm:=must_ok (X:=X) f0 i d (w:=ByteArray.mk #[91]) (by decide)
 revert hm hg
 cases pMust X (ByteArray.mk #[91]) i with
 | bad e p=>
  rintro hg ⟨he,l,hm⟩
  rw[hm]
  exact⟨he,l,rfl⟩
 | ok _ j=>
  rintro hg ⟨hj,hm⟩
  obtain⟨e,h1,h2⟩:=shapeL_p (X:=X) (d:=d) hf (X.L.length-j+1) j [] f0 (by omega) (by omega) (by simp;omega)
  have hg:Gd X Sm i (pShapeL X (X.L.length-j+1) j []):=hg
  show Pr X d (pShapeL X (X.L.length-j+1) j []) _
  rw[hm]
  simp only[bindP,Option.bind_some,h1]
  revert h2 hg
  cases pShapeL X (X.L.length-j+1) j [] with
  | ok a k=>intro h2 hg;subst h2;exact⟨hg.2.1,rfl⟩
  | bad e p=>rintro⟨l,h2⟩ hg;subst h2;exact⟨hg,l,rfl⟩
theorem numsL_p:∀(m i:Nat) (acc:List Int) (fu:Nat),X.L.length-i<m→X.L.length-i<fu→acc.length+(X.L.length-i)≤Mx→
  ∃e,loopF (F.text_reader_numbers_l1 f0) fu (X.L.drop i,X.en,d,acc)=some e∧(match pNumsL X m i acc with
   | .ok a j=>e=.brk (X.L.drop j,X.en,d,a)
   | .bad e' p=>∃l,e=.ret (.inr ((e',p),(l,X.en,d))))
 | 0,i,acc,fu,h,_,_=>by omega
 | m+1,i,acc,fu,h,h2,h3=>by
  obtain⟨f,rfl⟩:∃f,fu=f+1:=⟨fu-1,by omega⟩
  simp only[loopF,F.text_reader_numbers_l1]
  rw[is_ok f0 i d (w:=ByteArray.mk #[125]) (by decide)]
  unfold pNumsL
  cases h4:X.is i (ByteArray.mk #[125]) with
  | true=>exact⟨_,rfl,rfl⟩
  | false=>
   simp only[Option.bind_some,Bool.not_false,cond_true,if_neg (show ¬(false=true) by decide)]
   have hn:=number_ok (X:=X) f0 i d
   unfold pNumber at hn
   cases h5:num (X.tx i) with
   | true=>
    have h6:=tx_lt (num_ne h5).1
    rw[h5,if_pos rfl] at hn
    simp only[Option.bind_some,cond_true,hn.2,bindP,app_chk (show acc.length≤Mx by omega) (show 8≤1000 by decide),bindE,if_pos]
    exact numsL_p m (i+1) _ f (by omega) (by omega) (by simp;omega)
   | false=>
    rw[h5,if_neg (by decide)] at hn
    obtain⟨_,l,hn⟩:=hn
    simp only[Option.bind_some,cond_false,hn,bindP,bindE,if_neg (show ¬(false=true) by decide)]
    exact⟨_,rfl,l,rfl⟩
theorem nums_p (i:Nat):Pr X d (pNums X i) (F.text_reader_numbers f0 (X.L.drop i) X.en d):=by
 have hz:=X.sz
 have hg:=pNums_gd (X:=X) i
 unfold F.text_reader_numbers
 unfold pNums at hg⊢
 have hm:=must_ok (X:=X) f0 i d (w:=ByteArray.mk #[123]) (by decide)
 revert hm hg
 cases pMust X (ByteArray.mk #[123]) i with
 | bad e p=>
  rintro hg ⟨he,l,hm⟩
  rw[hm]
  exact⟨he,l,rfl⟩
 | ok _ j=>
  rintro hg ⟨hj,hm⟩
  obtain⟨e,h1,h2⟩:=numsL_p (X:=X) (d:=d) hf (X.L.length-j+1) j [] f0 (by omega) (by omega) (by simp;omega)
  have hg:Gd X Sm i (pNumsL X (X.L.length-j+1) j []):=hg
  show Pr X d (pNumsL X (X.L.length-j+1) j []) _
  rw[hm]
  simp only[bindP,Option.bind_some,h1]
  revert h2 hg
  cases pNumsL X (X.L.length-j+1) j [] with
  | ok a k=>intro h2 hg;subst h2;exact⟨hg.2.1,rfl⟩
  | bad e p=>rintro⟨l,h2⟩ hg;subst h2;exact⟨hg,l,rfl⟩
end
section
variable {self:(List SToken)→Int→Int→Option (Rp STree)}(hf:Mx<f0)
include hf
theorem lists_p {c1:Int}{c2:ByteArray}{c3:Int}{c4:Bool}{c5:List SDim}:∀(m i:Nat) (acc:List (List Int)) (fu:Nat),X.L.length-i<m→X.L.length-i<fu→acc.length+(X.L.length-i)≤Mx→
  ∃e,loopF (F.text_reader_factor_l1 self f0) fu (X.L.drop i,X.en,d,acc,c1,c2,c3,c4,c5)=some e∧(match pLists X m i acc with
   | .ok a j=>e=.brk (X.L.drop j,X.en,d,a,c1,c2,c3,c4,c5)
   | .bad e' p=>∃l,e=.ret (.inr ((e',p),(l,X.en,d))))
 | 0,i,acc,fu,h,_,_=>by omega
 | m+1,i,acc,fu,h,h2,h3=>by
  obtain⟨f,rfl⟩:∃f,fu=f+1:=⟨fu-1,by omega⟩
  simp only[loopF,F.text_reader_factor_l1,amb2_self,amb_self]
  rw[peek_ok]
  unfold pLists
  simp only[Option.bind_some]
  have hx:((X.tx i).toList==(ByteArray.mk #[123]).toList)=X.is i (ByteArray.mk #[123]):=rfl
  rw[hx]
  cases h4:X.is i (ByteArray.mk #[123]) with
  | false=>exact⟨_,rfl,rfl⟩
  | true=>
   have hn:=nums_p (X:=X) (d:=d) hf i
   have hg:=pNums_gd (X:=X) i
   simp only[cond_true,if_pos]
   revert hn hg
   cases pNums X i with
   | bad e p=>
    rintro⟨he,l,hn⟩ hg
    rw[hn]
    exact⟨_,rfl,l,rfl⟩
   | ok a j=>
    rintro⟨hj,hn⟩ hg
    have h5:=hg.1
    rw[hn]
    simp only[bindP,Option.bind_some,app_chk (show acc.length≤Mx by omega) (show 24≤1000 by decide)]
    exact lists_p m j _ f (by omega) (by omega) (by simp;omega)
variable {S:Nat→R STree}(hP:∀i,i≤X.L.length→Pr X d (S i) (self (X.L.drop i) X.en d)) (hG:∀i,i≤X.L.length→Gd X TOk i (S i))
include hP hG
theorem kids_p {c1:Int}{c2:ByteArray}{c3:Int}{c4:Bool}{c5:List SDim}:∀(m i:Nat) (acc:List STree) (fu:Nat),i≤X.L.length→X.L.length-i<m→X.L.length-i<fu→acc.length+(X.L.length-i)≤Mx→
  Lp X d (fun a j=>(X.L.drop j,X.en,d,a,c1,c2,c3,c4,c5)) (pKids X S m i acc) (loopF (F.text_reader_factor_l2 self f0) fu (X.L.drop i,X.en,d,acc,c1,c2,c3,c4,c5))
 | 0,i,acc,fu,_,h,_,_=>by omega
 | m+1,i,acc,fu,hi,h,h2,h3=>by
  obtain⟨f,rfl⟩:∃f,fu=f+1:=⟨fu-1,by omega⟩
  rw[loopF_step]
  simp only[F.text_reader_factor_l2,amb2_self,amb_self]
  rw[peek_ok]
  unfold pKids
  simp only[Option.bind_some]
  have hx:((X.tx i).toList==(ByteArray.mk #[41]).toList)=X.is i (ByteArray.mk #[41]):=rfl
  rw[hx]
  cases h4:X.is i (ByteArray.mk #[41]) with
  | true=>exact rfl
  | false=>
   simp only[Bool.not_false,cond_true,if_neg (show ¬(false=true) by decide)]
   have go:∀j,i≤j→j≤X.L.length→Lp X d (fun a j=>(X.L.drop j,X.en,d,a,c1,c2,c3,c4,c5)) ((S j).bind fun k i=>pKids X S m i (acc++[k])) (loopStep (F.text_reader_factor_l2 self f0) f (bindP (self (X.L.drop j) X.en d)
     (fun ((r113,r114,r115,r116):STree×(List SToken)×Int×Int)=>
      (chk (acc.length+[r113].length≤maxLen∧(acc.length+[r113].length)*112≤140737488355328)).bind fun _=>
      some (.inl (r114,r115,r116,acc++[r113],c1,c2,c3,c4,c5)))
     (fun ((e117,e118),(r119,r120,r121))=>
      some (.inr (.ret (.inr ((e117,e118),(r119,r120,r121)))))))):=by
    intro j h5 h6
    have hp:=hP j h6
    have hg:=hG j h6
    revert hp hg
    cases S j with
    | bad e p=>
     rintro⟨he,l,hn⟩ hg
     rw[hn]
     exact⟨l,rfl⟩
    | ok a j2=>
     rintro⟨hj,hn⟩ hg
     have h7:=hg.1
     rw[hn]
     simp only[bindP,Option.bind_some,app_chk (show acc.length≤Mx by omega) (show 112≤1000 by decide),step_inl]
     exact kids_p m j2 _ f hj (by omega) (by omega) (by simp;omega)
   by_cases h5:0<acc.length
   ·have hd:decide ((acc.length:Int)>0)=true:=decide_eq_true (by omega)
    have hm:=must_ok (X:=X) f0 i d (w:=ByteArray.mk #[44]) (by decide)
    have hg:=pMust_gd (X:=X) (w:=ByteArray.mk #[44]) (by decide) i
    rw[hd,if_pos h5]
    revert hm hg
    cases pMust X (ByteArray.mk #[44]) i with
    | bad e p=>
     rintro⟨he,l,hn⟩ hg
     rw[hn]
     exact⟨l,rfl⟩
    | ok _ j=>
     rintro⟨hj,hn⟩ hg
     rw[hn]
     exact go j (by have:=hg.1;omega) hj
   ·have hd:decide ((acc.length:Int)>0)=false:=decide_eq_false (by omega)
    rw[hd,if_neg h5]
    exact go i (Nat.le_refl _) hi
end
end Go.DN
