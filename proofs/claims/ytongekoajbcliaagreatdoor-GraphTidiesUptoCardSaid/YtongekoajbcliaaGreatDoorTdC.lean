/-
  Graphs: tidying, as the document's answer does it.
-/
import Derived.Test.YtongekoajbcliaaGreatDoorTdB
set_option linter.unusedSimpArgs false
set_option linter.unusedVariables false
set_option maxRecDepth 20000
namespace Go.DN.Pl
open Go.AM Go.PL
theorem Pg {l:List Int}{i:Int}:l.any (fun x=>x==i)=true↔i∈l:=by
 rw[List.any_eq_true];simp
theorem I2 {nodes:List aq}(hT:Jo nodes):∀(k:Nat) (i:Int) (l:List Int) (fu:Nat),0≤i→i<(nodes.length:Int)→i<(k:Int)→xf nodes.length l→4000000+k<fu→
  F.fO fu nodes i l=some (whole nodes k i l)
 | 0,i,l,fu,h0,h1,hk,hl,hf=>by omega
 | k+1,i,l,0,h0,h1,hk,hl,hf=>by omega
 | k+1,i,l,fu+1,h0,h1,hk,hl,hf=>by
  show F.oQ (F.fO fu) (fu+1) nodes i l=_;have hlen:=hT.len;have hll:=yI hl;have hF:=xh (body:=F.jA (F.fO fu) (fu+1) i l) l (fun j=>(j:Int)) (fun x=>if x==i then some l else none) (fun j x hx=>by
   unfold F.jA;simp only[dec_lt hx,cond_true,aC hx,aa,aT (bP hx) (show l.length≤9223372036854775807 by omega)];cases x==i <;> rfl) (by
   unfold F.jA;simp only[bw,cond_false]) (fu+1) (by omega)
  rw[gP] at hF;have hF:aP (F.jA (F.fO fu) (fu+1) i l) (fu+1) 0=_:=hF;unfold F.oQ;rw[hF,AS]
  by_cases hi:i∈l
  ·rw[Pg.2 hi,if_pos rfl];unfold whole;rw[if_pos hi]
  ·have:l.any (fun x=>x==i)=false:=by
    cases h:l.any (fun x=>x==i) with
    | true=>exact absurd (Pg.1 h) hi
    | false=>rfl
   rw[this,if_neg (by decide)];dsimp only;obtain⟨n1,n2,n3⟩:=F9 h0 h1;obtain⟨o1,o2⟩:=hT.op i h0 h1;have hA:=hT.rt i h0 h1;rw[n1];simp only[aa];rw[whole,if_neg hi];generalize hAe:(nd nodes i).cH=A at hA o2;have hsub:∀(j:Nat),∀a∈A.take j,0≤a∧a<i:=fun j a ha=>hA a (fA ha);have hnew:=fun j=>tp hT.rt (k:=k) (i:=i) (by omega) (by omega) (A.take j) l (hsub j) hl;have hL:=fw (body:=F.jz (F.fO fu) (fu+1) nodes (nd nodes i)) A (fun j=>((j:Int),(A.take j).foldl (fun d a=>whole nodes k a d) l)) (A.foldl (fun d a=>whole nodes k a d) l) (fun j a ha=>by
    have ham:=hA a (aj ha);have hj:=bP ha;obtain⟨d1,_⟩:=hnew j;unfold F.jz;rw[hAe];simp only[dec_lt ha,cond_true,aC ha,aa];rw[I2 hT k a _ fu ham.1 (by omega) (by omega) d1 (by omega)];simp only[aa,aT hj (show A.length≤9223372036854775807 by omega)];rw[take_succ ha,eo];rfl) (by
    unfold F.jz;rw[hAe];simp only[bw,cond_false,bK]) (fu+1) (by omega)
   have hL:aP (F.jz (F.fO fu) (fu+1) nodes (nd nodes i)) (fu+1) (0,l)=_:=hL;rw[hL];simp only[aa];obtain⟨d1,_⟩:=hnew A.length;rw[bK] at d1;have d2:=yI d1;rw[cQ (by simp only[ah];omega) (by simp only[ah];omega)];rfl
def mW (nodes:List aq) (l:List Int):List Int:=(List.range nodes.length).map fun (q:Nat)=>num nodes l (q:Int)
theorem Xc (nodes:List aq):List.replicate (Int.toNat (nodes.length:Int)) (0:Int)=mW nodes []:=by
 unfold mW;rw[bO];symm;rw[List.eq_replicate_iff];refine⟨by simp,fun b hb=>?_⟩;obtain⟨q,_,rfl⟩:=fc.1 hb;rfl
theorem Da (nodes:List aq) (l:List Int){i:Int}(h0:0≤i) (h1:i<(nodes.length:Int)):(mW nodes l)[i.toNat]?=some (num nodes l i):=by
 unfold mW;rw[ak,dr (by omega)];show some (num nodes l ((i.toNat:Nat):Int))=_;rw[gD h0]
theorem C9 (nodes:List aq) (l:List Int):(mW nodes l).length=nodes.length:=by unfold mW;simp
theorem SO {l:List Int}{i v:Int}(h0:0≤i) (h:l[i.toNat]?=some v):idx l i=some v:=by
 have:=aC h;rwa[gD h0] at this
theorem HR (nodes:List aq) (l:List Int){i:Int}(h0:0≤i) (h1:i<(nodes.length:Int)):idx (mW nodes l) i=some (num nodes l i):=SO h0 (Da nodes l h0 h1)
theorem Oa (nodes:List aq) (l:List Int){i:Int}(v:Int) (h0:0≤i) (h1:i<(nodes.length:Int)):idx ((mW nodes l).set i.toNat v) i=some v:=by
 refine SO h0 ?_;rw[dN,if_pos rfl,if_pos (by rw[C9];omega)]
theorem Xb (nodes:List aq) (l:List Int){i:Int}(h0:0≤i) (h1:i<(nodes.length:Int)) (hi:i∉l):(mW nodes l).set i.toNat (num nodes (l++[i]) i)=mW nodes (l++[i]):=by
 apply du;intro q;rw[dN]
 by_cases hq:i.toNat=q
 ·subst hq;rw[if_pos rfl,if_pos (by rw[C9];omega),Da nodes _ h0 h1]
 ·rw[if_neg hq]
  by_cases hlt:q<nodes.length
  ·have e1:=Da nodes l (i:=(q:Int)) (by omega) (by omega);have e2:=Da nodes (l++[i]) (i:=(q:Int)) (by omega) (by omega);rw[bO] at e1 e2;rw[e1,e2]
   by_cases hm:(q:Int)∈l
   ·rw[L0 [i] hm]
   ·have hm2:(q:Int)∉l++[i]:=fun h=>by
     rcases dl.1 h with h | h
     ·exact hm h
     ·have:=c8.1 h;omega
    unfold num;rw[JC (by rw[ru];exact hm),JC (by rw[ru];exact hm2)]
  ·rw[bV (by rw[C9];omega),bV (by rw[C9];omega)]
theorem Jr (fu:Nat) (x y:aq) (hx:zK x.Op) (ha:x.cH.length≤4000000) (hf:4000000<fu):F.jB fu x y=some (dn x y):=by
 unfold F.jB;rw[Tc fu _ _ hx hf,iI fu _ _ ha hf];unfold dn;simp only[aa,M9]
def yU (st:List aq) (x:aq) (k:Nat):Int:=if (st.take k).any (dn x) then((st.take k).findIdx (dn x):Int) else(st.length:Int)
theorem Ve {st:List aq}{x y:aq}{k:Nat}(h:st[k]?=some y):yU st x (k+1)=if (st.take k).any (dn x) then yU st x k else if dn x y then(k:Int) else yU st x k:=by
 have hk:=pE h;unfold yU;rw[take_succ h,List.any_append,List.findIdx_append,hk];cases ha:(st.take k).any (dn x) with
 | true=>
  have:=xZ ha;rw[hk] at this;rw[Bool.true_or,if_pos rfl,if_pos rfl,if_pos this,if_pos rfl]
 | false=>
  have:=sA ha;rw[hk] at this;rw[fW,this,if_neg (mT _)];simp only[mU,List.any_nil,cF,List.findIdx_cons,List.findIdx_nil];cases dn x y with
  | true=>simp
  | false=>simp
theorem Xu (st:List aq) (x:aq):yU st x st.length=(st.findIdx (dn x):Int):=by
 unfold yU;rw[bK];cases h:st.any (dn x) with
 | true=>rw[if_pos rfl]
 | false=>rw[if_neg (by decide),sA h]
theorem YU {st:List aq}{x y:aq}{k:Nat}(h:st[k]?=some y):(yU st x k==(st.length:Int))=!((st.take k).any (dn x)):=by
 have hk:=pE h;have hlt:=bP h;unfold yU;cases ha:(st.take k).any (dn x) with
 | true=>
  have:=xZ ha;rw[hk] at this;rw[if_pos rfl];simp;omega
 | false=>simp
theorem Jh {nodes:List aq}(hT:Jo nodes):∀(l:List Int) (s:List aq×List gN),(∀i∈l,0≤i∧i<(nodes.length:Int))→(∀x∈s.1,zK x.Op∧x.cH.length≤1048576)→∀x∈(l.foldl (stepT nodes) s).1,zK x.Op∧x.cH.length≤1048576
 | [],s,_,h=>h
 | i::r,s,hl,h=>by
  rw[cz];refine Jh hT r (stepT nodes s i) (fun j hj=>hl j (ap _ hj)) fun x hx=>?_;have hi:=hl i ar;obtain⟨o1,o2⟩:=hT.op i hi.1 hi.2;unfold stepT qs at hx;dsimp only at hx;split at hx
  ·exact h x hx
  ·rcases dl.1 hx with hx | hx
   ·exact h x hx
   ·rw[c8.1 hx];exact⟨Jj (BY o1),by show(List.map _ _).length≤_;rw[aN];exact o2⟩
theorem TA {nodes:List aq}(hT:Jo nodes) (l:List Int){i:Int}(h0:0≤i) (h1:i<(nodes.length:Int)) (o:cy) (fu:Nat) (hf:4200000<fu):
  aP (F.jg fu (mW nodes l) (nd nodes i)) fu (0,o.Kind,o.au,o.At,o.Lo,o.Hi,o.Step,o.Value,([]:List Int))=some (o.Kind,o.au,o.At,o.Lo,o.Hi,o.Step,o.Value,(nd nodes i).cH.map (num nodes l)):=by
 obtain⟨o1,o2⟩:=hT.op i h0 h1;have hA:=hT.rt i h0 h1;have hL:=fw (body:=F.jg fu (mW nodes l) (nd nodes i)) (nd nodes i).cH (fun q=>((q:Int),o.Kind,o.au,o.At,o.Lo,o.Hi,o.Step,o.Value,((nd nodes i).cH.take q).map (num nodes l))) (o.Kind,o.au,o.At,o.Lo,o.Hi,o.Step,o.Value,(nd nodes i).cH.map (num nodes l)) (fun q a ha=>by
  have ham:=hA a (aj ha);have hq:=bP ha;have hl:(((nd nodes i).cH.take q).map (num nodes l)).length=q:=by rw[aN];exact pE ha
  unfold F.jg;simp only[dec_lt ha,cond_true,aC ha,aa,dK];rw[HR nodes l ham.1 (by omega)];simp only[aa];rw[cQ (by rw[hl];simp only[ah];omega) (by rw[hl];simp only[ah];omega)];simp only[aa,aT hq (show(nd nodes i).cH.length≤9223372036854775807 by omega)];rw[take_succ ha,dW];rfl) (by
  unfold F.jg;simp only[bw,cond_false,bK]) fu (by omega)
 exact hL
theorem S3 {nodes:List aq}(l:List Int) (st:List aq) (x:aq){i:Int}(h0:0≤i) (h1:i<(nodes.length:Int)) (hx:zK x.Op) (ha:x.cH.length≤1048576) (hst:st.length≤1000000) (fu:Nat) (hf:4200000<fu):
  aP (F.jf fu st i x.Op.Kind x.Op.au x.Op.At x.Op.Lo x.Op.Hi x.Op.Step x.Op.Value x.cH) fu (0,(mW nodes l).set i.toNat (st.length:Int))=some ((mW nodes l).set i.toNat (st.findIdx (dn x):Int)):=by
 have hL:=fw (body:=F.jf fu st i x.Op.Kind x.Op.au x.Op.At x.Op.Lo x.Op.Hi x.Op.Step x.Op.Value x.cH) st (fun k=>((k:Int),(mW nodes l).set i.toNat (yU st x k))) ((mW nodes l).set i.toNat (st.findIdx (dn x):Int)) (fun k y hy=>by
  have hk:=bP hy;unfold F.jf;simp only[dec_lt hy,cond_true,aC hy,aa,Oa nodes l _ h0 h1,YU hy];rw[show(⟨(⟨x.Op.Kind,x.Op.au,x.Op.At,x.Op.Lo,x.Op.Hi,x.Op.Step,x.Op.Value⟩:cy),x.cH⟩:aq)=x from rfl,show(⟨(⟨y.Op.Kind,y.Op.au,y.Op.At,y.Op.Lo,y.Op.Hi,y.Op.Step,y.Op.Value⟩:cy),y.cH⟩:aq)=y from rfl];rw[Jr fu x y hx (by omega) (by omega)];simp only[aa,aT hk (show st.length≤9223372036854775807 by omega)];rw[Ve hy];cases hq:(st.take k).any (dn x) with
  | true=>rfl
  | false=>
   cases hs:dn x y with
   | false=>rfl
   | true=>
    simp only[jn,cond_true,aa,List.set_set];rfl) (by
  unfold F.jf;simp only[bw,cond_false,Xu]) fu (by omega)
 have e:yU st x 0=(st.length:Int):=by
  unfold yU;rfl
 rw[e] at hL;exact hL
theorem Rx (fu:Nat){nodes:List aq}{p:Nat}{outs:List Int}(hT:Jo nodes) (hp:p≤nodes.length) (ho:∀o∈outs,0≤o∧o<(nodes.length:Int)) (hol:outs.length≤4000000) (hf:4200000<fu):
  F.mL fu nodes (p:Int) outs=some (CY nodes p outs):=by
 have hlen:=hT.len;have h1:=fw (body:=F.ji fu (p:Int)) (List.range p) (fun j=>((j:Int),gn j)) (gn p) (fun j x hx=>by
   have hj:j<p:=by have:=bP hx;rw[jm] at this;exact this
   have hd:decide ((j:Int)<(p:Int))=true:=by simp;omega
   unfold F.ji;simp only[hd,cond_true];rw[cQ (by rw[ES];simp only[ah];omega) (by rw[ES];simp only[ah];omega)];simp only[aa,aT hj (show p≤9223372036854775807 by omega)];rw[B9]) (by
   have hd:decide ((p:Int)<(p:Int))=false:=by simp
   unfold F.ji;simp only[jm,hd,cond_false]) fu (by rw[jm];omega)
 have h1:aP (F.ji fu (p:Int)) fu (0,([]:List Int))=_:=h1;have hnew:=fun j=>tp hT.rt (k:=nodes.length) (i:=(nodes.length:Int)) (iY _) (iY _) (outs.take j) (gn p) (fun a ha=>ho a (fA ha)) (H4 hp);have h2:=fw (body:=F.jh fu nodes outs) outs (fun j=>((j:Int),fT nodes p (outs.take j))) (fT nodes p outs) (fun j o hoj=>by
   have ho':=ho o (aj hoj);have hj:=bP hoj;obtain⟨d1,_⟩:=hnew j;have d1:xf nodes.length (fT nodes p (outs.take j)):=d1;unfold F.jh;simp only[dec_lt hoj,cond_true,aC hoj,aa];rw[I2 hT nodes.length o _ fu ho'.1 ho'.2 ho'.2 d1 (by omega)];simp only[aa,aT hj (show outs.length≤9223372036854775807 by omega)];unfold fT;rw[take_succ hoj,eo];rfl) (by
   unfold F.jh;simp only[bw,cond_false,bK]) fu (by omega)
 have h2:aP (F.jh fu nodes outs) fu (0,gn p)=_:=h2;have dL:xf nodes.length (fT nodes p outs):=by
  have:=(hnew outs.length).1;rw[bK] at this;exact this
 have lL:=yI dL;unfold F.mL;rw[h1];simp only[aa];rw[h2];simp only[aa];rw[ey ⟨by omega,by omega,by omega,by omega⟩];simp only[aa];rw[Xc];unfold CY;generalize fT nodes p outs=L at dL lL;have h5:=fw (body:=F.je fu nodes L) L (fun j=>((j:Int),mW nodes (L.take j),(runT nodes (L.take j)).1,([]:List Int))) (mW nodes L,(runT nodes L).1,([]:List Int)) (fun j i hi=>by
   have hir:=dL.2 i (aj hi);have hj:=bP hi;have hni:i∉L.take j:=fun h=>by
    have hn:=dL.1;rw[←oL j L] at hn;have hd:i∈L.drop j:=by
     rw[cM hj];rw[ag hj] at hi;rw[←dV hi];exact ar
    exact(List.nodup_append.1 hn).2.2 i h i hd rfl
   have hlj:(L.take j).length=j:=pE hi;have hst:=zy nodes (L.take j);obtain⟨n1,n2,n3⟩:=F9 hir.1 hir.2;obtain⟨o1,o2⟩:=hT.op i hir.1 hir.2;rw[take_succ hi,zz];have hns:=Xb nodes (L.take j) hir.1 hir.2 hni;have hk2:i∉(runT nodes (L.take j)).2.map (·.Key):=by rw[ru];exact hni
   have hn:num nodes (L.take j++[i]) i=((runT nodes (L.take j)).1.findIdx (dn (li nodes (runT nodes (L.take j)).2 i)):Int):=by
    unfold num;rw[zz];exact JD hk2
   rw[hn] at hns;generalize L.take j=lj at hlj hst hns hn;have hx:(⟨dP (nd nodes i).Op,(nd nodes i).cH.map (num nodes lj)⟩:aq)=li nodes (runT nodes lj).2 i:=rfl;have hxp:zK (li nodes (runT nodes lj).2 i).Op:=Jj (BY o1);have hxa:(li nodes (runT nodes lj).2 i).cH.length≤1048576:=by show(List.map _ _).length≤_;rw[aN];exact o2
   have hfl:=S3 (nodes:=nodes) lj (runT nodes lj).1 (li nodes (runT nodes lj).2 i) hir.1 hir.2 hxp hxa (by omega) fu hf;have hsi:=Oa nodes lj ((runT nodes lj).1.findIdx (dn (li nodes (runT nodes lj).2 i)):Int) hir.1 hir.2;unfold F.je;simp only[dec_lt hi,cond_true,aC hi,aa];rw[n1];simp only[aa];rw[R5];simp only[aa];rw[TA hT lj hir.1 hir.2 (dP (nd nodes i).Op) fu hf];simp only[aa];rw[HR nodes lj hir.1 hir.2];simp only[aa];rw[show(nd nodes i).cH.map (num nodes lj)=(li nodes (runT nodes lj).2 i).cH from rfl,show dP (nd nodes i).Op=(li nodes (runT nodes lj).2 i).Op from rfl];rw[hfl];simp only[aa];rw[hsi];simp only[aa];rw[hns];rw[show(⟨(⟨(li nodes (runT nodes lj).2 i).Op.Kind,(li nodes (runT nodes lj).2 i).Op.au,(li nodes (runT nodes lj).2 i).Op.At,(li nodes (runT nodes lj).2 i).Op.Lo,(li nodes (runT nodes lj).2 i).Op.Hi,(li nodes (runT nodes lj).2 i).Op.Step,(li nodes (runT nodes lj).2 i).Op.Value⟩:cy),(li nodes (runT nodes lj).2 i).cH⟩:aq)=li nodes (runT nodes lj).2 i from rfl];simp only[aT hj (show L.length≤9223372036854775807 by omega)];unfold stepT qs;cases hs:(runT nodes lj).1.any (dn (li nodes (runT nodes lj).2 i)) with
   | true=>
    have h3:=xZ hs;have h4:(((runT nodes lj).1.findIdx (dn (li nodes (runT nodes lj).2 i)):Int)==((runT nodes lj).1.length:Int))=false:=by simp;omega
    rw[h4];rfl
   | false=>
    have h4:(((runT nodes lj).1.findIdx (dn (li nodes (runT nodes lj).2 i)):Int)==((runT nodes lj).1.length:Int))=true:=by rw[sA hs];simp
    rw[h4,cond_true,cQ (by simp only[ah];omega) (by simp only[ah];omega)];rfl) (by
   unfold F.je;simp only[bw,cond_false,bK]) fu (by omega)
 have h5:aP (F.je fu nodes L) fu (0,mW nodes [],([]:List aq),([]:List Int))=_:=h5;rw[h5];simp only[aa];have h6:=fw (body:=F.jd fu outs (mW nodes L)) outs (fun j=>((j:Int),(outs.take j).map (num nodes L))) (outs.map (num nodes L)) (fun j o hoj=>by
   have ho':=ho o (aj hoj);have hj:=bP hoj;have hlj:((outs.take j).map (num nodes L)).length=j:=by rw[aN];exact pE hoj
   unfold F.jd;simp only[dec_lt hoj,cond_true,aC hoj,aa,dK];rw[HR nodes L ho'.1 ho'.2];simp only[aa];rw[cQ (by rw[hlj];simp only[ah];omega) (by rw[hlj];simp only[ah];omega)];simp only[aa,aT hj (show outs.length≤9223372036854775807 by omega)];rw[take_succ hoj,dW];rfl) (by
   unfold F.jd;simp only[bw,cond_false,bK]) fu (by omega)
 have h6:aP (F.jd fu outs (mW nodes L)) fu (0,([]:List Int))=_:=h6;rw[h6];rfl
theorem Gu (fu:Nat) (g:cL) (hn:g.aJ.length≤4000000) (hs:∀x∈g.aJ,zK x.Op∧x.cH.length≤1048576) (ho:g.lQ.length≤4000000) (hf:4200000<fu):F.kE fu g g=some true:=by
 unfold F.kE;rw[bne_false rfl,cond_false,iI fu _ _ ho (by omega),ed rfl];have hL:=fw (body:=F.ie fu g g) g.aJ (fun k=>(k:Int)) (Ex.bJ ():Ex Unit Bool) (fun k x hx=>by
  obtain⟨s1,s2⟩:=hs x (aj hx);unfold F.ie;simp only[dec_lt hx,cond_true,aC hx,aa];rw[Jr fu x x s1 (by omega) (by omega),xc.2 rfl];simp only[aa,fj,cond_false,aT (bP hx) (show g.aJ.length≤9223372036854775807 by omega)]) (by
  unfold F.ie;simp only[bw,cond_false]) fu (by omega)
 have hL:aP (F.ie fu g g) fu 0=_:=hL;simp only[aa,fj,cond_false];rw[hL];rfl
end Go.DN.Pl
