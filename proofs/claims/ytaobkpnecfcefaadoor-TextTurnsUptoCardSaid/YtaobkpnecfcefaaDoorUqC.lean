/-
  Text, reading: the program's part: shapes, numbers, factors.
-/
import Derived.Test.YtaobkpnecfcefaaDoorUqB
set_option linter.unusedVariables false
set_option linter.unusedSimpArgs false
set_option linter.unusedSectionVars false
namespace Go.DN
open Go.AM
theorem mT {α:Type}{a:List α}{x:α}{k:Nat}(h:a.length≤Mx) (hk:k≤1000):dA (a.length+[x].length≤maxLen∧(a.length+[x].length)*k≤140737488355328)=some ():=by
 refine lN ⟨?_,?_⟩
 ·simp only[cY,maxLen,Mx] at *;omega
 ·have h1:(a.length+[x].length)*k≤65537*1000:=Nat.mul_le_mul (by simp only[cY,Mx] at *;omega) hk
  omega
theorem R.dF {α β:Type}{a:α}{i:Nat}{f:α→Nat→R β}:(R.ok a i).bind f=f a i:=rfl
theorem R.lq {α β:Type}{e p:Int}{f:α→Nat→R β}:(R.bad e p:R α).bind f=.bad e p:=rfl
def uN {σ ρ:Type}(body:σ→Option (σ⊕ρ)) (n:Nat) (o:Option (σ⊕ρ)):Option ρ:=match o with
 | some (.inl x)=>aX body n x
 | some (.inr r)=>some r
 | none=>none
theorem oZ {σ ρ:Type}{body:σ→Option (σ⊕ρ)}{n:Nat}{x:σ}:aX body (n+1) x=uN body n (body x):=rfl
theorem rY {σ ρ:Type}{body:σ→Option (σ⊕ρ)}{n:Nat}{x:σ}:uN body n (some (.inl x))=aX body n x:=rfl
theorem He {σ ρ:Type}{body:σ→Option (σ⊕ρ)}{n:Nat}{r:ρ}:uN body n (some (.inr r))=some r:=rfl
def Lp {α β γ:Type}(X:jk) (d:Int) (b:α→Nat→β) (r:R α) (o:Option (Ex β (γ⊕((Int×Int)×((List ah)×Int×Int))))):Prop:=match r with
 | .ok a j=>o=some (.cD (b a j))
 | .bad e p=>∃l,o=some (.ret (.inr ((e,p),(l,X.en,d))))
theorem p7 (t:ai):(⟨t.Kind,t.Name,t.Number,t.Shaped,t.Shape,t.bC,t.Kids⟩:ai)=t:=by cases t;rfl
abbrev Rp (α:Type):=(α×(List ah)×Int×Int)⊕((Int×Int)×((List ah)×Int×Int))
variable {X:jk}{d:Int}{f0:Nat}
section
variable (hf:Mx<f0)
include hf
theorem Bj:∀(m i:Nat) (acc:List bh) (fu:Nat),X.L.length-i<m→X.L.length-i<fu→acc.length+(X.L.length-i)≤Mx→
  ∃e,aX (F.ng f0) fu (X.L.drop i,X.en,d,acc)=some e∧(match jg X m i acc with
   | .ok a j=>e=.cD (X.L.drop j,X.en,d,a)
   | .bad e' p=>∃l,e=.ret (.inr ((e',p),(l,X.en,d))))
 | 0,i,acc,fu,h,_,_=>by omega
 | m+1,i,acc,fu,h,h2,h3=>by
  obtain⟨f,rfl⟩:∃f,fu=f+1:=⟨fu-1,by omega⟩
  simp only[aX,F.ng]
  rw[tX f0 i d (w:=ByteArray.mk #[93]) (by decide)]
  unfold jg
  cases h4:X.is i (ByteArray.mk #[93]) with
  | true=>exact⟨_,rfl,rfl⟩
  | false=>
   simp only[aa,eo,cond_true,if_neg (show ¬(false=true) by decide)]
   rw[wm]
   cases h5:num (X.tx i) with
   | true=>
    have h6:=nb (s7 h5).1
    have hn:=vF (X:=X) f0 i d
    unfold mJ at hn
    rw[h5,if_pos rfl] at hn
    simp only[aa,cond_true,hn.2,aD,mT (show acc.length≤Mx by omega) (show 24≤1000 by decide),bx,if_pos]
    exact Bj m (i+1) _ f (by omega) (by omega) (by simp;omega)
   | false=>
    have hn:=uo (X:=X) hf i d
    unfold jT at hn
    cases h6:nm (X.tx i) with
    | true=>
     have h7:=nb (CS h6)
     rw[h6,if_pos rfl] at hn
     simp only[aa,cond_false,hn.2,aD,mT (show acc.length≤Mx by omega) (show 24≤1000 by decide),bx,if_neg (show ¬(false=true) by decide),if_pos]
     exact Bj m (i+1) _ f (by omega) (by omega) (by simp;omega)
    | false=>
     rw[h6,if_neg (by decide)] at hn
     obtain⟨_,l,hn⟩:=hn
     simp only[aa,cond_false,hn,aD,bx,if_neg (show ¬(false=true) by decide)]
     exact⟨_,rfl,l,rfl⟩
theorem JI (i:Nat):Pr X d (lZ X i) (F.jd f0 (X.L.drop i) X.en d):=by
 have hz:=X.sz
 have hg:=vC (X:=X) i
 unfold F.jd
 unfold lZ at hg⊢
 have hm:=iv (X:=X) f0 i d (w:=ByteArray.mk #[91]) (by decide)
 revert hm hg
 cases cg X (ByteArray.mk #[91]) i with
 | bad e p=>
  rintro hg ⟨he,l,hm⟩
  rw[hm]
  exact⟨he,l,rfl⟩
 | ok _ j=>
  rintro hg ⟨hj,hm⟩
  obtain⟨e,h1,h2⟩:=Bj (X:=X) (d:=d) hf (X.L.length-j+1) j [] f0 (by omega) (by omega) (by simp;omega)
  have hg:Gd X Sm i (jg X (X.L.length-j+1) j []):=hg
  show Pr X d (jg X (X.L.length-j+1) j []) _
  rw[hm]
  simp only[aD,aa,h1]
  revert h2 hg
  cases jg X (X.L.length-j+1) j [] with
  | ok a k=>intro h2 hg;subst h2;exact⟨hg.2.1,rfl⟩
  | bad e p=>rintro⟨l,h2⟩ hg;subst h2;exact⟨hg,l,rfl⟩
theorem JS:∀(m i:Nat) (acc:List Int) (fu:Nat),X.L.length-i<m→X.L.length-i<fu→acc.length+(X.L.length-i)≤Mx→
  ∃e,aX (F.mj f0) fu (X.L.drop i,X.en,d,acc)=some e∧(match l5 X m i acc with
   | .ok a j=>e=.cD (X.L.drop j,X.en,d,a)
   | .bad e' p=>∃l,e=.ret (.inr ((e',p),(l,X.en,d))))
 | 0,i,acc,fu,h,_,_=>by omega
 | m+1,i,acc,fu,h,h2,h3=>by
  obtain⟨f,rfl⟩:∃f,fu=f+1:=⟨fu-1,by omega⟩
  simp only[aX,F.mj]
  rw[tX f0 i d (w:=ByteArray.mk #[125]) (by decide)]
  unfold l5
  cases h4:X.is i (ByteArray.mk #[125]) with
  | true=>exact⟨_,rfl,rfl⟩
  | false=>
   simp only[aa,eo,cond_true,if_neg (show ¬(false=true) by decide)]
   have hn:=vF (X:=X) f0 i d
   unfold mJ at hn
   cases h5:num (X.tx i) with
   | true=>
    have h6:=nb (s7 h5).1
    rw[h5,if_pos rfl] at hn
    simp only[aa,cond_true,hn.2,aD,mT (show acc.length≤Mx by omega) (show 8≤1000 by decide),bx,if_pos]
    exact JS m (i+1) _ f (by omega) (by omega) (by simp;omega)
   | false=>
    rw[h5,if_neg (by decide)] at hn
    obtain⟨_,l,hn⟩:=hn
    simp only[aa,cond_false,hn,aD,bx,if_neg (show ¬(false=true) by decide)]
    exact⟨_,rfl,l,rfl⟩
theorem TH (i:Nat):Pr X d (xG X i) (F.jz f0 (X.L.drop i) X.en d):=by
 have hz:=X.sz
 have hg:=Bv (X:=X) i
 unfold F.jz
 unfold xG at hg⊢
 have hm:=iv (X:=X) f0 i d (w:=ByteArray.mk #[123]) (by decide)
 revert hm hg
 cases cg X (ByteArray.mk #[123]) i with
 | bad e p=>
  rintro hg ⟨he,l,hm⟩
  rw[hm]
  exact⟨he,l,rfl⟩
 | ok _ j=>
  rintro hg ⟨hj,hm⟩
  obtain⟨e,h1,h2⟩:=JS (X:=X) (d:=d) hf (X.L.length-j+1) j [] f0 (by omega) (by omega) (by simp;omega)
  have hg:Gd X Sm i (l5 X (X.L.length-j+1) j []):=hg
  show Pr X d (l5 X (X.L.length-j+1) j []) _
  rw[hm]
  simp only[aD,aa,h1]
  revert h2 hg
  cases l5 X (X.L.length-j+1) j [] with
  | ok a k=>intro h2 hg;subst h2;exact⟨hg.2.1,rfl⟩
  | bad e p=>rintro⟨l,h2⟩ hg;subst h2;exact⟨hg,l,rfl⟩
end
section
variable {self:(List ah)→Int→Int→Option (Rp ai)}(hf:Mx<f0)
include hf
theorem JZ {c1:Int}{c2:ByteArray}{c3:Int}{c4:Bool}{c5:List bh}:∀(m i:Nat) (acc:List (List Int)) (fu:Nat),X.L.length-i<m→X.L.length-i<fu→acc.length+(X.L.length-i)≤Mx→
  ∃e,aX (F.kA self f0) fu (X.L.drop i,X.en,d,acc,c1,c2,c3,c4,c5)=some e∧(match l6 X m i acc with
   | .ok a j=>e=.cD (X.L.drop j,X.en,d,a,c1,c2,c3,c4,c5)
   | .bad e' p=>∃l,e=.ret (.inr ((e',p),(l,X.en,d))))
 | 0,i,acc,fu,h,_,_=>by omega
 | m+1,i,acc,fu,h,h2,h3=>by
  obtain⟨f,rfl⟩:∃f,fu=f+1:=⟨fu-1,by omega⟩
  simp only[aX,F.kA,lb,nv]
  rw[qm]
  unfold l6
  simp only[aa]
  have hx:((X.tx i).toList==(ByteArray.mk #[123]).toList)=X.is i (ByteArray.mk #[123]):=rfl
  rw[hx]
  cases h4:X.is i (ByteArray.mk #[123]) with
  | false=>exact⟨_,rfl,rfl⟩
  | true=>
   have hn:=TH (X:=X) (d:=d) hf i
   have hg:=Bv (X:=X) i
   simp only[cond_true,if_pos]
   revert hn hg
   cases xG X i with
   | bad e p=>
    rintro⟨he,l,hn⟩ hg
    rw[hn]
    exact⟨_,rfl,l,rfl⟩
   | ok a j=>
    rintro⟨hj,hn⟩ hg
    have h5:=hg.1
    rw[hn]
    simp only[aD,aa,mT (show acc.length≤Mx by omega) (show 24≤1000 by decide)]
    exact JZ m j _ f (by omega) (by omega) (by simp;omega)
variable {S:Nat→R ai}(hP:∀i,i≤X.L.length→Pr X d (S i) (self (X.L.drop i) X.en d)) (hG:∀i,i≤X.L.length→Gd X lc i (S i))
include hP hG
theorem NS {c1:Int}{c2:ByteArray}{c3:Int}{c4:Bool}{c5:List bh}:∀(m i:Nat) (acc:List ai) (fu:Nat),i≤X.L.length→X.L.length-i<m→X.L.length-i<fu→acc.length+(X.L.length-i)≤Mx→
  Lp X d (fun a j=>(X.L.drop j,X.en,d,a,c1,c2,c3,c4,c5)) (jU X S m i acc) (aX (F.fV self f0) fu (X.L.drop i,X.en,d,acc,c1,c2,c3,c4,c5))
 | 0,i,acc,fu,_,h,_,_=>by omega
 | m+1,i,acc,fu,hi,h,h2,h3=>by
  obtain⟨f,rfl⟩:∃f,fu=f+1:=⟨fu-1,by omega⟩
  rw[oZ]
  simp only[F.fV,lb,nv]
  rw[qm]
  unfold jU
  simp only[aa]
  have hx:((X.tx i).toList==(ByteArray.mk #[41]).toList)=X.is i (ByteArray.mk #[41]):=rfl
  rw[hx]
  cases h4:X.is i (ByteArray.mk #[41]) with
  | true=>exact rfl
  | false=>
   simp only[eo,cond_true,if_neg (show ¬(false=true) by decide)]
   have go:∀j,i≤j→j≤X.L.length→Lp X d (fun a j=>(X.L.drop j,X.en,d,a,c1,c2,c3,c4,c5)) ((S j).bind fun k i=>jU X S m i (acc++[k])) (uN (F.fV self f0) f (aD (self (X.L.drop j) X.en d)
     (fun ((r113,r114,r115,r116):ai×(List ah)×Int×Int)=>
      (dA (acc.length+[r113].length≤maxLen∧(acc.length+[r113].length)*112≤140737488355328)).bind fun _=>
      some (.inl (r114,r115,r116,acc++[r113],c1,c2,c3,c4,c5)))
     (fun ((e117,e118),(r119,r120,r121))=>
      some (.inr (.ret (.inr ((e117,e118),(r119,r120,r121)))))))):=by
    intro j h5 h6
    have hp:=hP j h6
    have hg:=hG j h6
    revert hp hg
    cases S j with
    | bad e p=>
     rintro⟨he,l,hn⟩ hg
     rw[hn]
     exact⟨l,rfl⟩
    | ok a j2=>
     rintro⟨hj,hn⟩ hg
     have h7:=hg.1
     rw[hn]
     simp only[aD,aa,mT (show acc.length≤Mx by omega) (show 112≤1000 by decide),rY]
     exact NS m j2 _ f hj (by omega) (by omega) (by simp;omega)
   by_cases h5:0<acc.length
   ·have hd:decide ((acc.length:Int)>0)=true:=decide_eq_true (by omega)
    have hm:=iv (X:=X) f0 i d (w:=ByteArray.mk #[44]) (by decide)
    have hg:=gO (X:=X) (w:=ByteArray.mk #[44]) (by decide) i
    rw[hd,if_pos h5]
    revert hm hg
    cases cg X (ByteArray.mk #[44]) i with
    | bad e p=>
     rintro⟨he,l,hn⟩ hg
     rw[hn]
     exact⟨l,rfl⟩
    | ok _ j=>
     rintro⟨hj,hn⟩ hg
     rw[hn]
     exact go j (by have:=hg.1;omega) hj
   ·have hd:decide ((acc.length:Int)>0)=false:=decide_eq_false (by omega)
    rw[hd,if_neg h5]
    exact go i (aq _) hi
end
end Go.DN
