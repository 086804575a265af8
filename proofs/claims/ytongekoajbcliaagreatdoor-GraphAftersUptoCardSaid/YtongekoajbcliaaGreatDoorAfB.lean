/-
  Graphs: one after another: both sides; the statement.
-/
import Derived.Test.YtongekoajbcliaaGreatDoorAfA
set_option linter.all false
set_option maxRecDepth 20000
namespace Go.DN.Pl
open Go.AM Go.PL
theorem T4 (fu:Nat) (s:List ai) (hs:s.length≤1000000):F.ra fu s=some s:=by
 unfold F.ra;have hc:ba (([]:List ai).length+s.length≤maxLen∧(([]:List ai).length+s.length)*160≤140737488355328)=some ():=b8 (by simp only[fg];omega) (by simp only[fg];omega);rw[hc];simp only[aa,iz];unfold Al;split
 ·rename_i h;have:s=[]:=bu (by omega);subst this;simp
 ·rfl
section
variable {fu:Nat}{f g:bn}(hfg:E4 f) (hgg:E4 g) (hf:4200000<fu) (h1:(fK fu f).1=0) (h2:(fK fu g).1=0) (hn:f.cQ.length=bF g.ah)
include hfg hgg hf h1 h2 hn
theorem ZD:aL (F.qp fu f (fK fu f).2 (fK fu g).2) fu (0,([]:List ai),([]:List Int))=some (Nd (fK fu f).2 (fK fu g).2 f.cQ):=by
 obtain⟨a1,a2⟩:=Av (ze hfg) (by omega) h1;obtain⟨b1,b2⟩:=Av (ze hgg) (by omega) h2;obtain⟨_,_,hO⟩:=wa hfg h1;have hp:=tA g.ah;have ho:=hfg.2.1;refine Nc _ _ _ (fun k o hk=>?_) ?_ fu (by omega)
 ·have hor:=hO o (ak hk);have hlt:=bO hk;have e1:=AI (l:=(fK fu f).2) hor.1 (by rw[a1];exact hor.2);have e2:=AI (l:=(fK fu g).2) (i:=(k:Int)) (by omega) (by rw[b1];omega);rw[bI] at e2;have l1:=JV a2 o.toNat;unfold F.qp;simp only[dec_lt hk,cond_true,aC hk,aa];rw[e1,aa,e2,aa,Ft fu _ _ (by omega) (by omega)];simp only[aa,aP hlt (show f.cQ.length≤9223372036854775807 by omega)];unfold CM;rw[hk];dsimp only
  by_cases h:(fK fu f).2.getD o.toNat []=(fK fu g).2.getD k []
  ·simp only[decide_eq_true h,eO,cond_false,if_true]
  ·simp only[decide_eq_false h,ic,cond_true];rfl
 ·unfold F.qp;simp only[bq,cond_false]
theorem ZC:aL (F.lm fu f (fK fu f).2 (fK fu g).2) fu (0,([]:List ai),([]:List Int))=some (Nd (fK fu f).2 (fK fu g).2 f.cQ):=by
 obtain⟨a1,a2⟩:=Av (ze hfg) (by omega) h1;obtain⟨b1,b2⟩:=Av (ze hgg) (by omega) h2;obtain⟨_,_,hO⟩:=wa hfg h1;have hp:=tA g.ah;have ho:=hfg.2.1;refine Nc _ _ _ (fun k o hk=>?_) ?_ fu (by omega)
 ·have hor:=hO o (ak hk);have hlt:=bO hk;have e1:=AI (l:=(fK fu f).2) hor.1 (by rw[a1];exact hor.2);have e2:=AI (l:=(fK fu g).2) (i:=(k:Int)) (by omega) (by rw[b1];omega);rw[bI] at e2;have l1:=JV a2 o.toNat;unfold F.lm;simp only[dec_lt hk,cond_true,aC hk,aa];rw[e1,aa,e2,aa,iB fu _ _ (by omega) (by omega)];simp only[aa,aP hlt (show f.cQ.length≤9223372036854775807 by omega)];unfold CM;rw[hk];dsimp only
  by_cases h:(fK fu f).2.getD o.toNat []=(fK fu g).2.getD k []
  ·simp only[decide_eq_true h,eO,cond_false,if_true]
  ·simp only[decide_eq_false h,ic,cond_true];rfl
 ·unfold F.lm;simp only[bq,cond_false]
theorem OL {k:Nat}(hk:bF g.ah+k<g.ah.length):∃x,g.ah[bF g.ah+k]?=some x∧nd g.ah ((bF g.ah+k:Nat):Int)=x∧(∀a∈x.bU,0≤a∧a<((bF g.ah+k:Nat):Int))∧x.bU.length≤1048576:=by
 obtain⟨hT,_,_⟩:=wa hgg h2;have hx:=af hk;have he:=S1 hx;refine⟨_,hx,he,fun a ha=>?_,?_⟩
 ·have:=hT.rt ((bF g.ah+k:Nat):Int) (by omega) (by omega);rw[he] at this;exact this a ha
 ·have:=(hT.op ((bF g.ah+k:Nat):Int) (by omega) (by omega)).2;rw[he] at this;exact this
theorem XP (K:Nat) (hK:bF g.ah+K=g.ah.length) (hl1:f.ah.length≤4096) (hl2:g.ah.length≤4096):
  aL (F.nR fu g (bF g.ah:Int)) fu (0,f.cQ,f.ah)=some (mU f (bF g.ah) K,fB f g (bF g.ah) K):=by
 have hpl:dZ g.ah (bF g.ah:Int) (g.ah.length:Int)=g.ah.drop (bF g.ah):=by
  unfold dZ;rw[bI,bI];exact dc (by rw[bY];exact aH _)
 have hlen:(g.ah.drop (bF g.ah)).length=K:=by rw[bY];omega
 have hL:=eD (body:=F.nR fu g (bF g.ah:Int)) (g.ah.drop (bF g.ah)) (fun k=>((k:Int),mU f (bF g.ah) k,fB f g (bF g.ah) k)) (mU f (bF g.ah) K,fB f g (bF g.ah) K) (fun k x hx=>by
  have hk:=bO hx;have hx':g.ah[bF g.ah+k]?=some x:=by rw[bC] at hx;exact hx
  obtain⟨y,q1,q2,q3,q4⟩:=OL hfg hgg hf h1 h2 hn (k:=k) (by omega);rw[hx'] at q1;cases q1;have hA:=args_at f (bF g.ah) k x x.Op q3 q4 (body:=F.qo fu (mU f (bF g.ah) k) x) (fun q a m ha hm=>by
   have hqa:=bO ha;have hm2:ba (m.length+1≤maxLen∧(m.length+1)*8≤140737488355328)=some ():=b8 (by omega) (by omega);unfold F.qo;simp only[dec_lt ha,cond_true,aC ha,aa,dx,aj,hm2,aP hqa (show x.bU.length≤9223372036854775807 by omega)];cases idx (mU f (bF g.ah) k) a <;> rfl) (fun m=>by
   unfold F.qo;simp only[bq,cond_false]) fu hf
  have c1:ba ((mU f (bF g.ah) k).length+1≤maxLen∧((mU f (bF g.ah) k).length+1)*8≤140737488355328)=some ():=b8 (by rw[HT];omega) (by rw[HT];omega);have c2:ba ((fB f g (bF g.ah) k).length+1≤maxLen∧((fB f g (bF g.ah) k).length+1)*160≤140737488355328)=some ():=b8 (by rw[kr];omega) (by rw[kr];omega);rw[PR f g,GD];unfold F.nR;simp only[hpl,dec_lt hx,cond_true,aC hx,aa,hA,aj,c1,c2,aP hk (show(g.ah.drop (bF g.ah)).length≤9223372036854775807 by omega)];unfold Iw;rw[q2]) (by
  unfold F.nR;simp only[hpl,hlen,show decide ((K:Int)<(K:Int))=false by simp,cond_false]) fu (by omega)
 simp only[GC,PQ hn] at hL;exact hL
theorem XO (K:Nat) (hK:bF g.ah+K=g.ah.length) (hl1:f.ah.length≤4096) (hl2:g.ah.length≤4096):
  aL (F.iJ fu g) fu (0,f.cQ,f.ah)=some (mU f (bF g.ah) K,fB f g (bF g.ah) K):=by
 have hL:=eD (body:=F.iJ fu g) g.ah (fun j=>((j:Int),mU f (bF g.ah) (j-bF g.ah),fB f g (bF g.ah) (j-bF g.ah))) (mU f (bF g.ah) K,fB f g (bF g.ah) K) (fun j x hx=>by
  have hj:=bO hx
  by_cases hq:bF g.ah≤j
  ·obtain⟨k,rfl⟩:∃k,j=bF g.ah+k:=⟨j-bF g.ah,by omega⟩;rw[show bF g.ah+k+1-bF g.ah=k+1 by omega,show bF g.ah+k-bF g.ah=k by omega];obtain⟨y,q1,q2,q3,q4⟩:=OL hfg hgg hf h1 h2 hn (k:=k) (by omega);rw[hx] at q1;cases q1;have hA:=args_at f (bF g.ah) k x x.Op q3 q4 (body:=F.lk fu (mU f (bF g.ah) k) x) (fun q a m ha hm=>by
    have hqa:=bO ha;have hm2:ba (m.length+1≤maxLen∧(m.length+1)*8≤140737488355328)=some ():=b8 (by omega) (by omega);unfold F.lk;simp only[dec_lt ha,cond_true,aC ha,aa,dx,aj,hm2,aP hqa (show x.bU.length≤9223372036854775807 by omega)];cases idx (mU f (bF g.ah) k) a <;> rfl) (fun m=>by
    unfold F.lk;simp only[bq,cond_false]) fu hf
   have c1:ba ((mU f (bF g.ah) k).length+1≤maxLen∧((mU f (bF g.ah) k).length+1)*8≤140737488355328)=some ():=b8 (by rw[HT];omega) (by rw[HT];omega);have c2:ba ((fB f g (bF g.ah) k).length+1≤maxLen∧((fB f g (bF g.ah) k).length+1)*160≤140737488355328)=some ():=b8 (by rw[kr];omega) (by rw[kr];omega);have hd:decide (((bF g.ah+k:Nat):Int)<(bF g.ah:Int))=false:=by simp;omega
   rw[PR f g,GD];unfold F.iJ;simp only[dec_lt hx,cond_true,aC hx,aa,sA fu g (by omega) (by omega),hd,cond_false,hA,aj,c1,c2,aP hj (show g.ah.length≤9223372036854775807 by omega)];unfold Iw;rw[q2]
  ·have hd:decide ((j:Int)<(bF g.ah:Int))=true:=by simp;omega
   rw[show j+1-bF g.ah=0 by omega,show j-bF g.ah=0 by omega];unfold F.iJ;simp only[dec_lt hx,cond_true,aC hx,aa,sA fu g (by omega) (by omega),hd,aP hj (show g.ah.length≤9223372036854775807 by omega)]) (by
  unfold F.iJ;simp only[bq,cond_false,show g.ah.length-bF g.ah=K by omega]) fu (by omega)
 simp only[Nat.zero_sub,GC,PQ hn] at hL;exact hL
theorem YY (K:Nat) (hK:bF g.ah+K=g.ah.length):aL (F.nQ fu g (mU f (bF g.ah) K)) fu (0,([]:List Int))=some (g.cQ.map (mV f (bF g.ah)))∧aL (F.jL fu g (mU f (bF g.ah) K)) fu (0,([]:List Int))=some (g.cQ.map (mV f (bF g.ah))):=by
 obtain⟨_,_,hO⟩:=wa hgg h2;have ho:=hgg.2.1;have hc:∀(k:Nat) o,g.cQ[k]?=some o→ba (((g.cQ.take k).map (mV f (bF g.ah))).length+1≤maxLen∧(((g.cQ.take k).map (mV f (bF g.ah))).length+1)*8≤140737488355328)=some ():=fun k o hk=>by
  have hl:((g.cQ.take k).map (mV f (bF g.ah))).length=k:=by rw[aJ];exact ox hk
  have:=bO hk;exact b8 (by rw[hl];omega) (by rw[hl];omega)
 have hi:∀(k:Nat) o,g.cQ[k]?=some o→idx (mU f (bF g.ah) K) o=some (mV f (bF g.ah) o):=fun k o hk=>by
  have:=hO o (ak hk);exact Uf f _ _ this.1 (by omega)
 constructor
 ·have hL:=eD (body:=F.nQ fu g (mU f (bF g.ah) K)) g.cQ (fun k=>((k:Int),(g.cQ.take k).map (mV f (bF g.ah)))) (g.cQ.map (mV f (bF g.ah))) (fun k o hk=>by
   unfold F.nQ;simp only[dec_lt hk,cond_true,aC hk,aa,hi k o hk,aj,hc k o hk,aP (bO hk) (show g.cQ.length≤9223372036854775807 by omega)];rw[take_succ hk,cS];rfl) (by
   unfold F.nQ;simp only[bq,cond_false,bM]) fu (by omega)
  exact hL
 ·have hL:=eD (body:=F.jL fu g (mU f (bF g.ah) K)) g.cQ (fun k=>((k:Int),(g.cQ.take k).map (mV f (bF g.ah)))) (g.cQ.map (mV f (bF g.ah))) (fun k o hk=>by
   unfold F.jL;simp only[dec_lt hk,cond_true,aC hk,aa,hi k o hk,aj,hc k o hk,aP (bO hk) (show g.cQ.length≤9223372036854775807 by omega)];rw[take_succ hk,cS];rfl) (by
   unfold F.jL;simp only[bq,cond_false,bM]) fu (by omega)
  exact hL
end
theorem WG (fu:Nat) (f g:bn) (hfg:E4 f) (hgg:E4 g) (hf:4200000<fu):F.jU fu f g=some true:=by
 have hF:=ze hfg;have hG:=ze hgg;have nilS:F.ju fu ⟨[],[]⟩ ⟨[],[]⟩=some true:=G7 fu ⟨[],[]⟩ (iO _) (fun x hx=>by cases hx) (iO _) hf;unfold F.jU F.yv F.qH;rw[MJ fu f hF (by omega),NA fu f hF (by omega)];simp only[aa]
 by_cases h1:(fK fu f).1=0
 ·obtain⟨hT1,hP1,hO1⟩:=wa hfg h1;obtain⟨hl1,_,_⟩:=vJ h1;rw[bne_false h1,cond_false,cond_false];rw[MJ fu g hG (by omega),NA fu g hG (by omega)];simp only[aa]
  by_cases h2:(fK fu g).1=0
  ·obtain⟨hT2,hP2,hO2⟩:=wa hgg h2;obtain⟨hl2,_,_⟩:=vJ h2;have hp:=tA g.ah;have hp1:=tA f.ah;rw[bne_false h2,cond_false,cond_false];rw[Cn fu g (by omega) (by omega),sA fu g (by omega) (by omega)];simp only[aa]
   by_cases hn:f.cQ.length=bF g.ah
   ·rw[bne_false (show((bF g.ah:Nat):Int)=(f.cQ.length:Int) by omega),cond_false,cond_false];rw[ZD hfg hgg hf h1 h2 hn,ZC hfg hgg hf h1 h2 hn];unfold Nd;cases hfit:(List.range f.cQ.length).all (CM (fK fu f).2 (fK fu g).2 f.cQ) with
    | false=>
     rw[if_neg (by decide)];simp only[aY,aa];rw[nilS];rfl
    | true=>
     rw[if_pos rfl];simp only[aY,aa];have hol:=hfg.2.1;rw[T4 fu _ (by omega),j6 fu _ (by omega)];simp only[aa];rw[ep (show(0:Int)≤(bF g.ah:Int)∧(bF g.ah:Int)≤(g.ah.length:Int) from⟨by omega,by omega⟩)];rw[b8 (a:=([]:List ai).length) (by simp only[fg];omega) (by simp only[fg];omega),b8 (a:=([]:List Int).length) (by simp only[fg];omega) (by simp only[fg];omega)];simp only[aa,iz];obtain⟨K,hK⟩:∃K,bF g.ah+K=g.ah.length:=⟨g.ah.length-bF g.ah,by omega⟩;rw[XP hfg hgg hf h1 h2 hn K hK hl1 hl2,XO hfg hgg hf h1 h2 hn K hK hl1 hl2];simp only[aa];obtain⟨o1,o2⟩:=YY hfg hgg hf h1 h2 hn K hK;rw[o1,o2];simp only[aa];rw[Cn fu f (by omega) (by omega),sA fu f (by omega) (by omega)];simp only[aa];have hTA:=YD (g:=g) hT1 hT2 hl1 hl2 hO1 hn hK;have hPA:=Ul (g:=g) (n:=bF g.ah) (k:=K) hP1;have hpA:=QD (f:=f) (g:=g) (n:=bF g.ah) (k:=K);have hgo:=hgg.2.1;have hOA:∀o∈g.cQ.map (mV f (bF g.ah)),0≤o∧o<((fB f g (bF g.ah) K).length:Int):=fun o ho=>by
      obtain⟨b,hb,rfl⟩:=eL.1 ho;have hb:=hO2 b hb;rw[kr];unfold mV;split
      ·have hlt:b.toNat<f.cQ.length:=by omega
       have:=hO1 (f.cQ.getD b.toNat 0) (by rw[bl,af hlt];exact ff hlt);omega
      ·omega
     rw[Xm fu hTA hpA hPA hOA (by rw[aJ];omega) hf,Sc fu hTA hpA hOA (by rw[aJ];omega) hf];simp only[aa];obtain⟨t1,t2,t3⟩:=Qa hTA hpA hOA;have htl:(vv (fB f g (bF g.ah) K) (bF f.ah) (g.cQ.map (mV f (bF g.ah)))).ah.length≤8192:=by rw[kr] at t1;omega
     have hS:=G7 fu (vv (fB f g (bF g.ah) K) (bF f.ah) (g.cQ.map (mV f (bF g.ah)))) (by omega) t2 (by rw[t3,aJ];omega) hf;unfold F.pf;generalize vv (fB f g (bF g.ah) K) (bF f.ah) (g.cQ.map (mV f (bF g.ah)))=T at hS;cases decide ((T.ah.length:Int)>4096) with
     | true=>
      simp only[cond_true,aa];rw[nilS];rfl
     | false=>
      simp only[cond_false,aa];rw[hS];rfl
   ·rw[bne_true (show((bF g.ah:Nat):Int)≠(f.cQ.length:Int) by omega),cond_true,cond_true];simp only[aa];rw[nilS];rfl
  ·rw[bne_true h2,cond_true,cond_true];simp only[aa];rw[nilS];simp
 ·rw[bne_true h1,cond_true,cond_true];simp only[aa];rw[nilS];simp
end Go.DN.Pl
