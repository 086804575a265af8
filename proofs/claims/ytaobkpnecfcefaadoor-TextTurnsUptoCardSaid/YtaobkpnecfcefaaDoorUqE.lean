/-
  Text, reading: the program's part: expressions, functions, programs.
-/
import Derived.Test.YtaobkpnecfcefaaDoorUqD
set_option linter.unusedVariables false
set_option linter.unusedSimpArgs false
set_option linter.unusedSectionVars false
namespace Go.DN
open Go.AM
theorem U2:∀d,d<65→IntKind.wrap .i64 (((d+1:Nat):Int)-1)=(d:Int):=by decide
variable {X:jk}{f0:Nat}
section
variable {d:Nat}(hd:d<64){self:(List ah)→Int→Int→Option (Rp ai)}(hf:Mx<f0){S:Nat→R ai}(hP:∀i,i≤X.L.length→Pr X ((d+1:Nat):Int) (S i) (self (X.L.drop i) X.en ((d+1:Nat):Int))) (hG:∀i,i≤X.L.length→Gd X lc i (S i))
include hd hf hP hG
theorem SI (i:Nat) (hi:i≤X.L.length):Pr X (d:Int) (uI X S i) (F.lS self f0 (X.L.drop i) X.en (d:Int)):=by
 have hw:IntKind.wrap .i64 ((d:Int)+1)=((d+1:Nat):Int):=wr (n:=65) (by omega) (by simp[Mx])
 have hw1:=U2 d (by omega)
 have hc:decide (((d+1:Nat):Int)>64)=false:=decide_eq_false (by omega)
 simp only[F.lS,lb,nv,hw,hc,cond_false]
 rw[tX f0 i ((d+1:Nat):Int) (w:=ByteArray.mk #[108,101,116]) (by decide)]
 unfold uI
 simp only[aa]
 cases h1:X.is i (ByteArray.mk #[108,101,116]) with
 | true=>
  have h2:=is_lt (by decide) h1
  simp only[cond_true,if_pos]
  unfold sZ
  generalize i+1=i at h2⊢
  have hn:=uo (X:=X) hf i ((d+1:Nat):Int)
  revert hn
  cases jT X i with
  | bad e p=>rintro⟨he,l,hn⟩;rw[hn];simp only[aD,aa,F.aE,hw1,R.lq];exact⟨he,l,rfl⟩
  | ok s i=>
   rintro⟨h2,hn⟩
   rw[hn]
   simp only[aD,aa,R.dF]
   have hn:=iv (X:=X) f0 i ((d+1:Nat):Int) (w:=ByteArray.mk #[61]) (by decide)
   revert hn
   cases cg X (ByteArray.mk #[61]) i with
   | bad e p=>rintro⟨he,l,hn⟩;rw[hn];simp only[aD,aa,F.aE,hw1,R.lq];exact⟨he,l,rfl⟩
   | ok _ i=>
    rintro⟨h2,hn⟩
    rw[hn]
    simp only[aa,R.dF]
    have hn:=hP i h2
    revert hn
    cases S i with
    | bad e p=>rintro⟨he,l,hn⟩;rw[hn];simp only[aD,aa,F.aE,hw1,R.lq];exact⟨he,l,rfl⟩
    | ok a i=>
     rintro⟨h2,hn⟩
     rw[hn]
     simp only[aa,R.dF,mT (show([]:List ai).length≤Mx from cv _) (show 112≤1000 by decide)]
     have hn:=iv (X:=X) f0 i ((d+1:Nat):Int) (w:=ByteArray.mk #[105,110]) (by decide)
     revert hn
     cases cg X (ByteArray.mk #[105,110]) i with
     | bad e p=>rintro⟨he,l,hn⟩;rw[hn];simp only[aD,aa,F.aE,hw1,R.lq];exact⟨he,l,rfl⟩
     | ok _ i=>
      rintro⟨h2,hn⟩
      rw[hn]
      simp only[aa,R.dF]
      have hn:=hP i h2
      revert hn
      cases S i with
      | bad e p=>rintro⟨he,l,hn⟩;rw[hn];simp only[aD,aa,F.aE,hw1,R.lq];exact⟨he,l,rfl⟩
      | ok b i=>
       rintro⟨h2,hn⟩
       rw[hn]
       have hl:(([]:List ai)++[a]).length≤Mx:=by simp[Mx]
       simp only[aa,R.dF,mT hl (show 112≤1000 by decide),F.aE,hw1]
       exact⟨h2,rfl⟩
 | false=>
  simp only[cond_false,if_neg (show ¬(false=true) by decide)]
  rw[tX f0 i ((d+1:Nat):Int) (w:=ByteArray.mk #[114,101,112,101,97,116]) (by decide)]
  simp only[aa]
  cases h3:X.is i (ByteArray.mk #[114,101,112,101,97,116]) with
  | true=>
   have h2:=is_lt (by decide) h3
   simp only[cond_true,if_pos]
   have hn:=vF (X:=X) f0 (i+1) ((d+1:Nat):Int)
   revert hn
   cases mJ X (i+1) with
   | bad e p=>rintro⟨he,l,hn⟩;rw[hn];simp only[aD,aa,F.aE,hw1,R.lq];exact⟨he,l,rfl⟩
   | ok n i=>
    rintro⟨h2,hn⟩
    rw[hn]
    simp only[aD,aa,R.dF]
    unfold sZ
    have hn:=uo (X:=X) hf i ((d+1:Nat):Int)
    revert hn
    cases jT X i with
    | bad e p=>rintro⟨he,l,hn⟩;rw[hn];simp only[aD,aa,F.aE,hw1,R.lq];exact⟨he,l,rfl⟩
    | ok s i=>
     rintro⟨h2,hn⟩
     rw[hn]
     simp only[aD,aa,R.dF]
     have hn:=iv (X:=X) f0 i ((d+1:Nat):Int) (w:=ByteArray.mk #[61]) (by decide)
     revert hn
     cases cg X (ByteArray.mk #[61]) i with
     | bad e p=>rintro⟨he,l,hn⟩;rw[hn];simp only[aD,aa,F.aE,hw1,R.lq];exact⟨he,l,rfl⟩
     | ok _ i=>
      rintro⟨h2,hn⟩
      rw[hn]
      simp only[aa,R.dF]
      have hn:=hP i h2
      revert hn
      cases S i with
      | bad e p=>rintro⟨he,l,hn⟩;rw[hn];simp only[aD,aa,F.aE,hw1,R.lq];exact⟨he,l,rfl⟩
      | ok a i=>
       rintro⟨h2,hn⟩
       rw[hn]
       simp only[aa,R.dF,mT (show([]:List ai).length≤Mx from cv _) (show 112≤1000 by decide)]
       have hn:=iv (X:=X) f0 i ((d+1:Nat):Int) (w:=ByteArray.mk #[119,105,116,104]) (by decide)
       revert hn
       cases cg X (ByteArray.mk #[119,105,116,104]) i with
       | bad e p=>rintro⟨he,l,hn⟩;rw[hn];simp only[aD,aa,F.aE,hw1,R.lq];exact⟨he,l,rfl⟩
       | ok _ i=>
        rintro⟨h2,hn⟩
        rw[hn]
        simp only[aa,R.dF]
        have hn:=hP i h2
        revert hn
        cases S i with
        | bad e p=>rintro⟨he,l,hn⟩;rw[hn];simp only[aD,aa,F.aE,hw1,R.lq];exact⟨he,l,rfl⟩
        | ok b i=>
         rintro⟨h2,hn⟩
         rw[hn]
         have hl:(([]:List ai)++[a]).length≤Mx:=by simp[Mx]
         simp only[aa,R.dF,mT hl (show 112≤1000 by decide),F.aE,hw1]
         exact⟨h2,rfl⟩
  | false=>
   have hp:=U4 hf hP hG i hi
   have hx:(HE X S i)=(fM X S i).bind fun t i=>cf X (fM X S) (kM X) 64 t i:=rfl
   rw[←hx] at hp
   have hb:Nat.beq (List.length [ByteArray.mk #[43],ByteArray.mk #[45]]) (List.length [ByteArray.mk #[43],ByteArray.mk #[45]])=true:=rfl
   simp only[cond_false,if_neg (show ¬(false=true) by decide)]
   revert hp
   cases HE X S i with
   | ok a j=>rintro⟨hj,hp⟩;rw[hp];simp only[aD,aa,hb,cond_true,p7,F.aE,hw1];exact⟨hj,rfl⟩
   | bad e p=>rintro⟨he,l,hp⟩;rw[hp];simp only[aD,aa,hb,cond_true,F.aE,hw1];exact⟨he,l,rfl⟩
end
theorem Og:∀(r fu:Nat),r≤64→Mx+r<fu→∀i,i≤X.L.length→Pr X ((64-r:Nat):Int) (pE X r i) (F.gd fu (X.L.drop i) X.en ((64-r:Nat):Int))
 | 0,fu,_,hf,i,hi=>by
  obtain⟨f,rfl⟩:∃f,fu=f+1:=⟨fu-1,by omega⟩
  simp only[F.gd,F.lS]
  have hw:IntKind.wrap .i64 (((64-0:Nat):Int)+1)=65:=by decide
  have hc:decide ((65:Int)>64)=true:=by decide
  have hw1:IntKind.wrap .i64 (65-1)=((64-0:Nat):Int):=by decide
  rw[hw,hc]
  simp only[cond_true,AJ,aa,F.aE,hw1]
  exact⟨by decide,_,rfl⟩
 | r+1,fu,hr,hf,i,hi=>by
  obtain⟨f,rfl⟩:∃f,fu=f+1:=⟨fu-1,by omega⟩
  have e:64-r=(64-(r+1))+1:=by omega
  have hP:=Og r f (by omega) (by omega)
  rw[e] at hP
  exact SI (X:=X) (d:=64-(r+1)) (by omega) (self:=F.gd f) (f0:=f+1) (by omega) hP (fun i hi=>Le r i hi) i hi
section
variable {d:Int}(hf:Mx<f0)
include hf
theorem Kj {c1:ByteArray}{c2:Int}{c3:ByteArray}{c4:Int}{c5:Bool}{c6:List bh}{c7:List (List Int)}{c8:List ai}:∀(m i:Nat) (acc:List cJ) (fu:Nat),i≤X.L.length→X.L.length-i<m→X.L.length-i<fu→acc.length+(X.L.length-i)≤Mx→
  Lp X d (fun a j=>(X.L.drop j,X.en,d,c1,c2,c3,c4,c5,c6,c7,c8,a)) (fe X m i acc) (aX (F.gG f0) fu (X.L.drop i,X.en,d,c1,c2,c3,c4,c5,c6,c7,c8,acc))
 | 0,i,acc,fu,_,h,_,_=>by omega
 | m+1,i,acc,fu,hi,h,h2,h3=>by
  obtain⟨f,rfl⟩:∃f,fu=f+1:=⟨fu-1,by omega⟩
  rw[oZ]
  simp only[F.gG]
  rw[qm]
  unfold fe
  simp only[aa]
  have hx:((X.tx i).toList==(ByteArray.mk #[41]).toList)=X.is i (ByteArray.mk #[41]):=rfl
  rw[hx]
  cases h4:X.is i (ByteArray.mk #[41]) with
  | true=>exact rfl
  | false=>
   simp only[eo,cond_true,if_neg (show ¬(false=true) by decide)]
   have go:∀j,i≤j→j≤X.L.length→Lp X d (fun a j=>(X.L.drop j,X.en,d,c1,c2,c3,c4,c5,c6,c7,c8,a)) ((jT X j).bind fun s i=>(cg X (ByteArray.mk #[58]) i).bind fun _ i=>(lZ X i).bind fun ds i=>fe X m i (acc++[⟨s,ds⟩])) (uN (F.gG f0) f (aD (F.ez f0 (X.L.drop j) X.en d)
    (fun ((r38,r39,r40,r41):ByteArray×(List ah)×Int×Int)=>
     aD (F.bF f0 (ByteArray.mk #[58]) r39 r40 r41)
      (fun ((r42,r43,r44):(List ah)×Int×Int)=>
       aD (F.jd f0 r42 r43 r44)
        (fun ((r45,r46,r47,r48):(List bh)×(List ah)×Int×Int)=>
         (dA (acc.length+[(⟨r38,r45⟩:cJ)].length≤maxLen∧(acc.length+[(⟨r38,r45⟩:cJ)].length)*40≤140737488355328)).bind fun _=>
         some (.inl (r46,r47,r48,c1,c2,c3,c4,c5,c6,c7,c8,acc++[(⟨r38,r45⟩:cJ)])))
        (fun ((e49,e50),(r51,r52,r53))=>
         some (.inr (.ret (.inr ((e49,e50),(r51,r52,r53)))))))
      (fun ((e54,e55),(r56,r57,r58))=>
       some (.inr (.ret (.inr ((e54,e55),(r56,r57,r58)))))))
    (fun ((e59,e60),(r61,r62,r63))=>
     some (.inr (.ret (.inr ((e59,e60),(r61,r62,r63)))))))):=by
    intro j h5 h6
    have hn:=uo (X:=X) hf j d
    have hg:=uH (X:=X) j
    revert hn hg
    cases jT X j with
    | bad e p=>rintro⟨he,l,hn⟩ hg;rw[hn];exact⟨l,rfl⟩
    | ok s j1=>
     rintro⟨hj,hn⟩ hg
     have hg:=hg.1
     rw[hn]
     simp only[aD,aa,R.dF]
     have hn:=iv (X:=X) f0 j1 d (w:=ByteArray.mk #[58]) (by decide)
     have hg2:=gO (X:=X) (w:=ByteArray.mk #[58]) (by decide) j1
     revert hn hg2
     cases cg X (ByteArray.mk #[58]) j1 with
     | bad e p=>rintro⟨he,l,hn⟩ hg;rw[hn];exact⟨l,rfl⟩
     | ok _ j2=>
      rintro⟨hj,hn⟩ hg2
      have hg2:=hg2.1
      rw[hn]
      simp only[aa,R.dF]
      have hn:=JI (X:=X) (d:=d) hf j2
      have hg3:=vC (X:=X) j2
      revert hn hg3
      cases lZ X j2 with
      | bad e p=>rintro⟨he,l,hn⟩ hg;rw[hn];exact⟨l,rfl⟩
      | ok ds j3=>
       rintro⟨hj,hn⟩ hg3
       have hg3:=hg3.1
       rw[hn]
       simp only[aa,mT (show acc.length≤Mx by omega) (show 40≤1000 by decide),rY]
       exact Kj m j3 _ f hj (by omega) (by omega) (by simp;omega)
   by_cases h5:0<acc.length
   ·have hd:decide ((acc.length:Int)>0)=true:=decide_eq_true (by omega)
    have hm:=iv (X:=X) f0 i d (w:=ByteArray.mk #[44]) (by decide)
    have hg:=gO (X:=X) (w:=ByteArray.mk #[44]) (by decide) i
    rw[hd,if_pos h5]
    revert hm hg
    cases cg X (ByteArray.mk #[44]) i with
    | bad e p=>
     rintro⟨he,l,hn⟩ hg
     rw[hn]
     exact⟨l,rfl⟩
    | ok _ j=>
     rintro⟨hj,hn⟩ hg
     rw[hn]
     exact go j (by have:=hg.1;omega) hj
   ·have hd:decide ((acc.length:Int)>0)=false:=decide_eq_false (by omega)
    rw[hd,if_neg h5]
    exact go i (aq _) hi
end
theorem Uc (hf:Mx+64<f0) (i:Nat):Pr X 0 (xI X i) (F.iQ f0 (X.L.drop i) X.en 0):=by
 have hz:=X.sz
 have hf':Mx<f0:=by omega
 unfold F.iQ xI
 have hn:=iv (X:=X) f0 i 0 (w:=ByteArray.mk #[102,110]) (by decide)
 revert hn
 cases cg X (ByteArray.mk #[102,110]) i with
 | bad e p=>rintro⟨he,l,hn⟩;rw[hn];exact⟨he,l,rfl⟩
 | ok _ i=>
  rintro⟨h2,hn⟩
  rw[hn]
  simp only[aD,aa,R.dF]
  have hn:=uo (X:=X) hf' i 0
  revert hn
  cases jT X i with
  | bad e p=>rintro⟨he,l,hn⟩;rw[hn];exact⟨he,l,rfl⟩
  | ok s i=>
   rintro⟨h2,hn⟩
   rw[hn]
   simp only[aa,R.dF]
   have hn:=iv (X:=X) f0 i 0 (w:=ByteArray.mk #[40]) (by decide)
   revert hn
   cases cg X (ByteArray.mk #[40]) i with
   | bad e p=>rintro⟨he,l,hn⟩;rw[hn];exact⟨he,l,rfl⟩
   | ok _ i=>
    rintro⟨h2,hn⟩
    rw[hn]
    simp only[aa,R.dF]
    have hn:=Kj (X:=X) (d:=0) (f0:=f0) (c1:=s) (c2:=0) (c3:=ByteArray.mk #[]) (c4:=0) (c5:=false) (c6:=[]) (c7:=[]) (c8:=[]) hf' (X.L.length-i+1) i [] f0 h2 (by omega) (by omega) (by simp;omega)
    have he:=wj (X:=X) (X.L.length-i+1) i []
    have hg:=xH (X:=X) (X.L.length-i+1) i [] h2 (by simp;omega) (fun x h=>by cases h)
    revert hn he hg
    cases fe X (X.L.length-i+1) i [] with
    | bad e p=>rintro⟨l,hn⟩ _ hg;rw[hn];exact⟨hg,l,rfl⟩
    | ok g i=>
     intro hn he _
     have hn:aX (F.gG f0) f0 _=some (.cD (X.L.drop i,X.en,0,s,0,ByteArray.mk #[],0,false,[],[],[],g)):=hn
     rw[hn]
     have he:=he _ _ rfl
     have hm:=iv (X:=X) f0 i 0 (w:=ByteArray.mk #[41]) (by decide)
     unfold cg at hm
     rw[he,if_pos rfl] at hm
     simp only[bx,hm.2,aa,R.dF]
     have hn:=iv (X:=X) f0 (i+1) 0 (w:=ByteArray.mk #[61]) (by decide)
     revert hn
     cases cg X (ByteArray.mk #[61]) (i+1) with
     | bad e p=>rintro⟨he,l,hn⟩;rw[hn];exact⟨he,l,rfl⟩
     | ok _ i=>
      rintro⟨h2,hn⟩
      rw[hn]
      simp only[aa,R.dF]
      have hn:=Og (X:=X) 64 f0 (aq _) hf i h2
      have e0:((64-64:Nat):Int)=0:=rfl
      rw[e0] at hn
      revert hn
      cases pE X 64 i with
      | bad e p=>rintro⟨he,l,hn⟩;rw[hn];exact⟨he,l,rfl⟩
      | ok t i=>
       rintro⟨h2,hn⟩
       rw[hn]
       simp only[aa,R.dF,p7]
       have hn:=iv (X:=X) f0 i 0 (w:=ByteArray.mk #[59]) (by decide)
       revert hn
       cases cg X (ByteArray.mk #[59]) i with
       | bad e p=>rintro⟨he,l,hn⟩;rw[hn];exact⟨he,l,rfl⟩
       | ok _ i=>rintro⟨h2,hn⟩;rw[hn];exact⟨h2,rfl⟩
theorem Rb (fu:Nat) (e a:Int) (out:List br):F.nT fu e a out=some (e,a,if e=0 then out else[]):=by
 unfold F.nT
 by_cases h:e=0
 ·subst h;rfl
 ·have:(e !=0)=true:=by simpa using h
  rw[this,if_neg h];rfl
theorem Np (hf:Mx+64<f0):∀(m i:Nat) (acc:List br) (fu:Nat),i≤X.L.length→X.L.length-i<m→X.L.length-i<fu→acc.length+(X.L.length-i)≤Mx→
  (match qU X m i acc with
   | .ok a _=>∃l x y,aX (F.qK f0) fu (X.L.drop i,X.en,0,acc)=some (.cD (l,x,y,a))
   | .bad e p=>aX (F.qK f0) fu (X.L.drop i,X.en,0,acc)=some (.ret (.inl ([],⟨e,p⟩))))
 | 0,i,acc,fu,_,h,_,_=>by omega
 | m+1,i,acc,fu,hi,h,h2,h3=>by
  obtain⟨f,rfl⟩:∃f,fu=f+1:=⟨fu-1,by omega⟩
  rw[oZ]
  simp only[F.qK,lb,nv]
  unfold qU
  have hl:(X.L.drop i).length=X.L.length-i:=by simp
  by_cases h4:i<X.L.length
  ·have hd:decide (((X.L.drop i).length:Int)>0)=true:=decide_eq_true (by rw[hl];omega)
   rw[hd,if_pos h4]
   have hn:=Uc (X:=X) hf i
   have hg:=HH (X:=X) i
   revert hn hg
   cases xI X i with
   | bad e p=>
    rintro⟨he,l,hn⟩ hg
    simp only[hn,aD,aa,cond_true,Rb,if_neg he,He]
    rfl
   | ok a j=>
    rintro⟨hj,hn⟩ hg
    have hg:=hg.1
    simp only[hn,aD,aa,cond_true,mT (show acc.length≤Mx by omega) (show 152≤1000 by decide),rY,R.dF]
    exact Np hf m j _ f hj (by omega) (by omega) (by simp;omega)
  ·have hd:decide (((X.L.drop i).length:Int)>0)=false:=decide_eq_false (by rw[hl];omega)
   rw[hd,if_neg h4]
   exact⟨_,_,_,rfl⟩
end Go.DN
