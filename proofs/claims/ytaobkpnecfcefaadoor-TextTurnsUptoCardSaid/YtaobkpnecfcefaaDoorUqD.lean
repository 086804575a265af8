/-
  Text, reading: the program's part: factors and chains.
-/
import Derived.Test.YtaobkpnecfcefaaDoorUqC
set_option linter.unusedVariables false
set_option linter.unusedSimpArgs false
set_option linter.unusedSectionVars false
namespace Go.DN
open Go.AM
theorem Dz:((ByteArray.mk #[]).toList==(ByteArray.mk #[]).toList)=true:=by rw[oN];rfl
theorem Ku {c:UInt8}:((ByteArray.mk #[c]).toList==(ByteArray.mk #[]).toList)=false:=by rw[oN];rfl
variable {X:jk}{d:Int}{f0:Nat}
section
variable {self:(List ah)→Int→Int→Option (Rp ai)}(hf:Mx<f0){S:Nat→R ai}(hP:∀i,i≤X.L.length→Pr X d (S i) (self (X.L.drop i) X.en d)) (hG:∀i,i≤X.L.length→Gd X lc i (S i))
include hf hP hG
theorem Ox (s:ByteArray) (b:Bool) (sh:List bh) (j:Nat) (hj:j≤X.L.length):Pr X d ((l6 X (X.L.length-j+1) j []).bind fun ls i=>(cg X (ByteArray.mk #[40]) i).bind fun _ i=>
   (jU X S (X.L.length-i+1) i []).bind fun ks i=>.ok ⟨3,s,0,b,sh,ls,ks⟩ (i+1))
  (bx (fun r=>r) (aX (F.kA self f0) f0 (X.L.drop j,X.en,d,([]:List (List Int)),3,s,0,b,sh):Option (Ex ((List ah)×Int×Int×(List (List Int))×Int×ByteArray×Int×Bool×(List bh)) ((ai×(List ah)×Int×Int)⊕((Int×Int)×((List ah)×Int×Int))))) fun ((m80,m81,m82,m83,m84,m85,m86,m87,m88):(List ah)×Int×Int×(List (List Int))×Int×ByteArray×Int×Bool×(List bh))=>
        aD (F.bF f0 (ByteArray.mk #[40]) m80 m81 m82)
         (fun ((r89,r90,r91):(List ah)×Int×Int)=>
          bx (fun r=>r) (aX (F.fV self f0) f0 (r89,r90,r91,([]:List ai),m84,m85,m86,m87,m88):Option (Ex ((List ah)×Int×Int×(List ai)×Int×ByteArray×Int×Bool×(List bh)) ((ai×(List ah)×Int×Int)⊕((Int×Int)×((List ah)×Int×Int))))) fun ((m122,m123,m124,m125,m126,m127,m128,m129,m130):(List ah)×Int×Int×(List ai)×Int×ByteArray×Int×Bool×(List bh))=>
          aD (F.bF f0 (ByteArray.mk #[41]) m122 m123 m124)
           (fun ((r131,r132,r133):(List ah)×Int×Int)=>
            some (.inl ((⟨m126,m127,m128,m129,m130,m83,m125⟩:ai),r131,r132,r133)))
           (fun ((e134,e135),(r136,r137,r138))=>
            some (.inr ((e134,e135),(r136,r137,r138)))))
         (fun ((e139,e140),(r141,r142,r143))=>
          some (.inr ((e139,e140),(r141,r142,r143))))):=by
 have hz:=X.sz
 obtain⟨e,h1,h2⟩:=JZ (X:=X) (d:=d) (self:=self) (c1:=3) (c2:=s) (c3:=0) (c4:=b) (c5:=sh) hf (X.L.length-j+1) j [] f0 (by omega) (by omega) (by simp;omega)
 have hg:=zp (X:=X) (X.L.length-j+1) j [] hj (by simp;omega) (fun x h=>by cases h)
 rw[h1]
 revert h2 hg
 cases l6 X (X.L.length-j+1) j [] with
 | bad e p=>rintro⟨l,h2⟩ hg;subst h2;exact⟨hg,l,rfl⟩
 | ok ls j=>
  intro h2 hg
  subst h2
  have hj:=hg.2.1
  have hm:=iv (X:=X) f0 j d (w:=ByteArray.mk #[40]) (by decide)
  simp only[bx,R.dF]
  revert hm
  cases cg X (ByteArray.mk #[40]) j with
  | bad e p=>rintro⟨he,l,hm⟩;rw[hm];exact⟨he,l,rfl⟩
  | ok _ j=>
   rintro⟨hj,hm⟩
   have hk:=NS (X:=X) (d:=d) (self:=self) (c1:=3) (c2:=s) (c3:=0) (c4:=b) (c5:=sh) hf hP hG (X.L.length-j+1) j [] f0 hj (by omega) (by omega) (by simp;omega)
   have hg:=Bw (X:=X) hG (X.L.length-j+1) j [] hj (by simp;omega) (fun x h=>by cases h)
   have he:=zq (X:=X) (S:=S) (X.L.length-j+1) j []
   rw[hm]
   simp only[aD,aa,R.dF]
   revert hk hg he
   cases jU X S (X.L.length-j+1) j [] with
   | bad e p=>rintro⟨l,hk⟩ hg _;rw[hk];exact⟨hg,l,rfl⟩
   | ok ks j=>
    intro hk hg he
    have hk:aX (F.fV self f0) f0 _=some (.cD (X.L.drop j,X.en,d,ks,3,s,0,b,sh)):=hk
    have he:=he _ _ rfl
    have hm:=iv (X:=X) f0 j d (w:=ByteArray.mk #[41]) (by decide)
    unfold cg at hm
    rw[he,if_pos rfl] at hm
    rw[hk]
    simp only[hm.2,aa,R.dF]
    exact⟨hm.1,rfl⟩
theorem Iy (i:Nat) (hi:i≤X.L.length):Pr X d (dm X S i) (F.kj self f0 (X.L.drop i) X.en d):=by
 unfold F.kj dm
 rw[wm]
 simp only[aa]
 cases h1:num (X.tx i) with
 | true=>
  have hn:=vF (X:=X) f0 i d
  unfold mJ at hn
  rw[h1,if_pos rfl] at hn
  simp only[cond_true,if_pos,hn.2,aD,aa]
  exact⟨hn.1,rfl⟩
 | false=>
  rw[tX f0 i d (w:=ByteArray.mk #[40]) (by decide)]
  simp only[cond_false,aa,if_neg (show ¬(false=true) by decide)]
  cases h2:X.is i (ByteArray.mk #[40]) with
  | true=>
   have h3:=is_lt (by decide) h2
   have hp:=hP (i+1) h3
   simp only[cond_true,if_pos]
   revert hp
   cases S (i+1) with
   | bad e p=>rintro⟨he,l,hn⟩;rw[hn];exact⟨he,l,rfl⟩
   | ok t j=>
    rintro⟨hj,hn⟩
    rw[hn]
    have hm:=iv (X:=X) f0 j d (w:=ByteArray.mk #[41]) (by decide)
    simp only[aD,aa,R.dF,p7]
    revert hm
    cases cg X (ByteArray.mk #[41]) j with
    | bad e p=>rintro⟨he,l,hm⟩;rw[hm];exact⟨he,l,rfl⟩
    | ok _ j=>rintro⟨hj,hm⟩;rw[hm];exact⟨hj,rfl⟩
  | false=>
   have hn:=uo (X:=X) hf i d
   simp only[cond_false,if_neg (show ¬(false=true) by decide)]
   revert hn
   cases jT X i with
   | bad e p=>rintro⟨he,l,hn⟩;rw[hn];exact⟨he,l,rfl⟩
   | ok s j=>
    rintro⟨hj,hn⟩
    rw[hn]
    simp only[aD,aa,R.dF,qm]
    have a1:((X.tx j).toList==(ByteArray.mk #[91]).toList)=X.is j (ByteArray.mk #[91]):=rfl
    have a2:((X.tx j).toList==(ByteArray.mk #[123]).toList)=X.is j (ByteArray.mk #[123]):=rfl
    have a3:((X.tx j).toList==(ByteArray.mk #[40]).toList)=X.is j (ByteArray.mk #[40]):=rfl
    have hc:(cond (!(X.is j (ByteArray.mk #[91]))) (cond (!(X.is j (ByteArray.mk #[123]))) (some (!(X.is j (ByteArray.mk #[40])))) (some false)) (some false))=some (ia X j):=by
     unfold ia
     cases X.is j (ByteArray.mk #[91]) <;> cases X.is j (ByteArray.mk #[123]) <;> cases X.is j (ByteArray.mk #[40]) <;> rfl
    rw[a1,a2,a3,hc,aa]
    cases h4:ia X j with
    | true=>exact⟨hj,rfl⟩
    | false=>
     simp only[cond_false,if_neg (show ¬(false=true) by decide)]
     unfold Gm JM
     cases h5:X.is j (ByteArray.mk #[91]) with
     | false=>
      simp only[cond_false,if_neg (show ¬(false=true) by decide),R.dF]
      exact Ox hf hP hG s false [] j hj
     | true=>
      have hs:=JI (X:=X) (d:=d) hf j
      simp only[cond_true,if_pos]
      revert hs
      cases lZ X j with
      | bad e p=>rintro⟨he,l,hn⟩;rw[hn];exact⟨he,l,rfl⟩
      | ok sh j2=>
       rintro⟨hj2,hn⟩
       rw[hn]
       exact Ox hf hP hG s true sh j2 hj2
omit hP hG in
theorem VW (i:Nat):aX (F.fE self f0 [ByteArray.mk #[42]]) f0 (ByteArray.mk #[],0,X.L.drop i,X.en,d)=some (if ie X i=true then X.tx i else ByteArray.mk #[],X.L.drop (if ie X i=true then i+1 else i),X.en,d):=by
 obtain⟨f,e⟩:∃f,f0=f+2:=⟨f0-2,by simp only[Mx] at hf;omega⟩
 have d1:decide ((0:Int)<([ByteArray.mk #[42]].length:Int))=true:=rfl
 have d2:decide ((1:Int)<([ByteArray.mk #[42]].length:Int))=false:=rfl
 have w1:IntKind.wrap .i64 (0+1)=1:=by decide
 have i1:idx [ByteArray.mk #[42]] 0=some (ByteArray.mk #[42]):=rfl
 have hl:∀x,aX (F.fE self f0 [ByteArray.mk #[42]]) f0 x=aX (F.fE self f0 [ByteArray.mk #[42]]) (f+2) x:=fun x=>by rw[←e]
 rw[hl]
 have hm:=tX (X:=X) f0 i d (w:=ByteArray.mk #[42]) (by decide)
 have ht:ie X i=X.is i (ByteArray.mk #[42]):=rfl
 rw[ht]
 cases h:X.is i (ByteArray.mk #[42]) with
 | true=>
  have hx:=gz h
  rw[h] at hm
  simp only[aX,F.fE,d1,cond_true,i1,aa,Dz,hm,w1,d2,cond_false,if_pos,hx]
 | false=>
  rw[h] at hm
  simp only[aX,F.fE,d1,cond_true,i1,aa,Dz,hm,w1,d2,cond_false,if_neg (show ¬(false=true) by decide)]
omit hf hP hG in
theorem P3 {i:Nat}(h:ie X i=true):((X.tx i).toList==(ByteArray.mk #[]).toList)=false∧True:=by
 have hx:X.tx i=ByteArray.mk #[42]:=gz h
 rw[hx]
 exact⟨Ku,trivial⟩
theorem Un:∀(k:Nat) (t:ai) (i fu:Nat) (j1:Int) (j2:ByteArray) (j3:Int) (j4:Bool) (j5:List bh) (j6:List (List Int)) (j7:List ai),i≤X.L.length→k≤64→k<fu→
  (match cf X (dm X S) (ie X) k t i with
   | .ok a j=>j≤X.L.length∧aX (F.jS self f0 [ByteArray.mk #[42]]) fu (((65-k:Nat):Int),X.L.drop i,X.en,d,j1,j2,j3,j4,j5,j6,j7,t.Kind,t.Name,t.Number,t.Shaped,t.Shape,t.bC,t.Kids)=some (.ret (.inl (a,X.L.drop j,X.en,d,[ByteArray.mk #[42]])))
   | .bad e p=>e≠0∧∃l,aX (F.jS self f0 [ByteArray.mk #[42]]) fu (((65-k:Nat):Int),X.L.drop i,X.en,d,j1,j2,j3,j4,j5,j6,j7,t.Kind,t.Name,t.Number,t.Shaped,t.Shape,t.bC,t.Kids)=some (.ret (.inr ((e,p),(l,X.en,d,[ByteArray.mk #[42]])))))
 | k,t,i,fu,j1,j2,j3,j4,j5,j6,j7,hi,hk,h=>by
  obtain⟨f,rfl⟩:∃f,fu=f+1:=⟨fu-1,by omega⟩
  rw[oZ]
  simp only[F.jS,lb,AJ,aa,VW (X:=X) (d:=d) (self:=self) hf i,p7]
  cases h1:ie X i with
  | false=>
   cases k with
   | zero=>simp only[cf,h1,if_neg (show ¬(false=true) by decide),Dz,cond_true];exact⟨hi,rfl⟩
   | succ k=>simp only[cf,h1,if_neg (show ¬(false=true) by decide),Dz,cond_true];exact⟨hi,rfl⟩
  | true=>
   have h2:=Ie i h1
   obtain⟨h3,h4⟩:=P3 (X:=X) h1
   simp only[if_pos,h3,cond_false]
   cases k with
   | zero=>
    have hd:decide (((65-0:Nat):Int)>64)=true:=by decide
    simp only[cf,h1,if_pos,hd,cond_true]
    exact⟨by decide,_,rfl⟩
   | succ k=>
    have hd:decide (((65-(k+1):Nat):Int)>64)=false:=decide_eq_false (by omega)
    simp only[cf,h1,if_pos,hd,cond_false]
    have hp:=Iy hf hP hG (i+1) h2
    revert hp
    cases dm X S (i+1) with
    | bad e p=>rintro⟨he,l,hn⟩;rw[hn];exact⟨he,l,rfl⟩
    | ok b j=>
     rintro⟨hj,hn⟩
     rw[hn]
     have hw:=wr (i:=65-(k+1)) (n:=65) (by omega) (by simp[Mx])
     have hw2:65-(k+1)+1=65-k:=by omega
     simp only[aD,aa,R.dF,rY,hw,hw2,h4]
     exact Un k ⟨4,X.tx i,0,false,[],[],[t,b]⟩ j f j1 j2 j3 j4 j5 j6 j7 hj (by omega) (by omega)
theorem U5 (i:Nat) (hi:i≤X.L.length):(match (dm X S i).bind fun t i=>cf X (dm X S) (ie X) 64 t i with
   | .ok a j=>j≤X.L.length∧F.jB self f0 (X.L.drop i) X.en d [ByteArray.mk #[42]]=some (.inl (a,X.L.drop j,X.en,d,[ByteArray.mk #[42]]))
   | .bad e p=>e≠0∧∃l,F.jB self f0 (X.L.drop i) X.en d [ByteArray.mk #[42]]=some (.inr ((e,p),(l,X.en,d,[ByteArray.mk #[42]])))):=by
 unfold F.jB
 have hp:=Iy hf hP hG i hi
 revert hp
 cases dm X S i with
 | bad e p=>rintro⟨he,l,hn⟩;rw[hn];exact⟨he,l,rfl⟩
 | ok t j=>
  rintro⟨hj,hn⟩
  rw[hn]
  have hl:=Un hf hP hG 64 t j f0 0 (ByteArray.mk #[]) 0 false [] [] [] hj (aq _) (by simp only[Mx] at hf;omega)
  have e1:((65-64:Nat):Int)=1:=rfl
  rw[e1] at hl
  simp only[aD,aa,R.dF]
  revert hl
  cases cf X (dm X S) (ie X) 64 t j with
  | ok a j=>rintro⟨hj,hl⟩;rw[hl];exact⟨hj,rfl⟩
  | bad e p=>rintro⟨he,l,hl⟩;rw[hl];exact⟨he,l,rfl⟩
theorem Nq (i:Nat) (hi:i≤X.L.length):Pr X d (fM X S i) (F.kl self f0 (X.L.drop i) X.en d):=by
 unfold F.kl
 have hp:=U5 hf hP hG i hi
 have hx:(fM X S i)=(dm X S i).bind fun t i=>cf X (dm X S) (ie X) 64 t i:=rfl
 rw[←hx] at hp
 have hb:Nat.beq (List.length [ByteArray.mk #[42]]) (List.length [ByteArray.mk #[42]])=true:=rfl
 revert hp
 cases fM X S i with
 | ok a j=>rintro⟨hj,hp⟩;rw[hp];simp only[aD,aa,hb,cond_true,p7];exact⟨hj,rfl⟩
 | bad e p=>rintro⟨he,l,hp⟩;rw[hp];simp only[aD,aa,hb,cond_true];exact⟨he,l,rfl⟩
omit hP hG in
theorem VV (i:Nat):aX (F.eC self f0 [ByteArray.mk #[43],ByteArray.mk #[45]]) f0 (ByteArray.mk #[],0,X.L.drop i,X.en,d)=some (if kM X i=true then X.tx i else ByteArray.mk #[],X.L.drop (if kM X i=true then i+1 else i),X.en,d):=by
 obtain⟨f,e⟩:∃f,f0=f+3:=⟨f0-3,by simp only[Mx] at hf;omega⟩
 have d1:decide ((0:Int)<([ByteArray.mk #[43],ByteArray.mk #[45]].length:Int))=true:=rfl
 have d2:decide ((1:Int)<([ByteArray.mk #[43],ByteArray.mk #[45]].length:Int))=true:=rfl
 have d3:decide ((2:Int)<([ByteArray.mk #[43],ByteArray.mk #[45]].length:Int))=false:=rfl
 have w1:IntKind.wrap .i64 (0+1)=1:=by decide
 have w2:IntKind.wrap .i64 (1+1)=2:=by decide
 have i1:idx [ByteArray.mk #[43],ByteArray.mk #[45]] 0=some (ByteArray.mk #[43]):=rfl
 have i2:idx [ByteArray.mk #[43],ByteArray.mk #[45]] 1=some (ByteArray.mk #[45]):=rfl
 have hl:∀x,aX (F.eC self f0 [ByteArray.mk #[43],ByteArray.mk #[45]]) f0 x=aX (F.eC self f0 [ByteArray.mk #[43],ByteArray.mk #[45]]) (f+3) x:=fun x=>by rw[←e]
 rw[hl]
 have hm:=tX (X:=X) f0 i d (w:=ByteArray.mk #[43]) (by decide)
 have hm2:=tX (X:=X) f0 i d (w:=ByteArray.mk #[45]) (by decide)
 unfold kM
 cases h:X.is i (ByteArray.mk #[43]) with
 | true=>
  have hx:=gz h
  rw[h] at hm
  simp only[aX,F.eC,d1,cond_true,i1,i2,aa,Dz,Ku,hm,w1,w2,d2,d3,cond_false,if_pos,hx,Bool.true_or]
 | false=>
  rw[h] at hm
  cases h2:X.is i (ByteArray.mk #[45]) with
  | true=>
   have hx:=gz h2
   rw[h2] at hm2
   simp only[aX,F.eC,d1,cond_true,i1,i2,aa,Dz,Ku,hm,hm2,w1,w2,d2,d3,cond_false,if_pos,hx,mi,if_neg (show ¬(false=true) by decide)]
  | false=>
   rw[h2] at hm2
   simp only[aX,F.eC,d1,cond_true,i1,i2,aa,Dz,Ku,hm,hm2,w1,w2,d2,d3,cond_false,mi,if_neg (show ¬(false=true) by decide)]
omit hf hP hG in
theorem Sr {i:Nat}(h:kM X i=true):((X.tx i).toList==(ByteArray.mk #[]).toList)=false∧True:=by
 unfold kM at h
 rw[bD] at h
 rcases h with h | h
 ·have hx:X.tx i=ByteArray.mk #[43]:=gz h
  rw[hx];exact⟨Ku,trivial⟩
 ·have hx:X.tx i=ByteArray.mk #[45]:=gz h
  rw[hx];exact⟨Ku,trivial⟩
theorem Um:∀(k:Nat) (t:ai) (i fu:Nat) (j1:Int) (j2:ByteArray) (j3:Int) (j4:Bool) (j5:List bh) (j6:List (List Int)) (j7:List ai),i≤X.L.length→k≤64→k<fu→
  (match cf X (fM X S) (kM X) k t i with
   | .ok a j=>j≤X.L.length∧aX (F.jR self f0 [ByteArray.mk #[43],ByteArray.mk #[45]]) fu (((65-k:Nat):Int),X.L.drop i,X.en,d,j1,j2,j3,j4,j5,j6,j7,t.Kind,t.Name,t.Number,t.Shaped,t.Shape,t.bC,t.Kids)=some (.ret (.inl (a,X.L.drop j,X.en,d,[ByteArray.mk #[43],ByteArray.mk #[45]])))
   | .bad e p=>e≠0∧∃l,aX (F.jR self f0 [ByteArray.mk #[43],ByteArray.mk #[45]]) fu (((65-k:Nat):Int),X.L.drop i,X.en,d,j1,j2,j3,j4,j5,j6,j7,t.Kind,t.Name,t.Number,t.Shaped,t.Shape,t.bC,t.Kids)=some (.ret (.inr ((e,p),(l,X.en,d,[ByteArray.mk #[43],ByteArray.mk #[45]])))))
 | k,t,i,fu,j1,j2,j3,j4,j5,j6,j7,hi,hk,h=>by
  obtain⟨f,rfl⟩:∃f,fu=f+1:=⟨fu-1,by omega⟩
  rw[oZ]
  simp only[F.jR,lb,AJ,aa,VV (X:=X) (d:=d) (self:=self) hf i,p7]
  cases h1:kM X i with
  | false=>
   cases k with
   | zero=>simp only[cf,h1,if_neg (show ¬(false=true) by decide),Dz,cond_true];exact⟨hi,rfl⟩
   | succ k=>simp only[cf,h1,if_neg (show ¬(false=true) by decide),Dz,cond_true];exact⟨hi,rfl⟩
  | true=>
   have h2:=J7 i h1
   obtain⟨h3,h4⟩:=Sr (X:=X) h1
   simp only[if_pos,h3,cond_false]
   cases k with
   | zero=>
    have hd:decide (((65-0:Nat):Int)>64)=true:=by decide
    simp only[cf,h1,if_pos,hd,cond_true]
    exact⟨by decide,_,rfl⟩
   | succ k=>
    have hd:decide (((65-(k+1):Nat):Int)>64)=false:=decide_eq_false (by omega)
    simp only[cf,h1,if_pos,hd,cond_false]
    have hp:=Nq hf hP hG (i+1) h2
    revert hp
    cases fM X S (i+1) with
    | bad e p=>rintro⟨he,l,hn⟩;rw[hn];exact⟨he,l,rfl⟩
    | ok b j=>
     rintro⟨hj,hn⟩
     rw[hn]
     have hw:=wr (i:=65-(k+1)) (n:=65) (by omega) (by simp[Mx])
     have hw2:65-(k+1)+1=65-k:=by omega
     simp only[aD,aa,R.dF,rY,hw,hw2,h4]
     exact Um k ⟨4,X.tx i,0,false,[],[],[t,b]⟩ j f j1 j2 j3 j4 j5 j6 j7 hj (by omega) (by omega)
theorem U4 (i:Nat) (hi:i≤X.L.length):(match (fM X S i).bind fun t i=>cf X (fM X S) (kM X) 64 t i with
   | .ok a j=>j≤X.L.length∧F.jA self f0 (X.L.drop i) X.en d [ByteArray.mk #[43],ByteArray.mk #[45]]=some (.inl (a,X.L.drop j,X.en,d,[ByteArray.mk #[43],ByteArray.mk #[45]]))
   | .bad e p=>e≠0∧∃l,F.jA self f0 (X.L.drop i) X.en d [ByteArray.mk #[43],ByteArray.mk #[45]]=some (.inr ((e,p),(l,X.en,d,[ByteArray.mk #[43],ByteArray.mk #[45]])))):=by
 unfold F.jA
 have hp:=Nq hf hP hG i hi
 revert hp
 cases fM X S i with
 | bad e p=>rintro⟨he,l,hn⟩;rw[hn];exact⟨he,l,rfl⟩
 | ok t j=>
  rintro⟨hj,hn⟩
  rw[hn]
  have hl:=Um hf hP hG 64 t j f0 0 (ByteArray.mk #[]) 0 false [] [] [] hj (aq _) (by simp only[Mx] at hf;omega)
  have e1:((65-64:Nat):Int)=1:=rfl
  rw[e1] at hl
  simp only[aD,aa,R.dF]
  revert hl
  cases cf X (fM X S) (kM X) 64 t j with
  | ok a j=>rintro⟨hj,hl⟩;rw[hl];exact⟨hj,rfl⟩
  | bad e p=>rintro⟨he,l,hl⟩;rw[hl];exact⟨he,l,rfl⟩
end
end Go.DN
