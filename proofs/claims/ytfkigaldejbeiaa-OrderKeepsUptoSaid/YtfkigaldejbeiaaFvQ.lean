/-
  Orders: the plain law of OrderRuns: all turns; the law dz F.
-/
import Derived.Test.YtfkigaldejbeiaaFvO
set_option linter.unusedSectionVars false
set_option linter.unusedSimpArgs false
set_option linter.unusedVariables false
namespace Go.DN.So
open Go.AM Go.DN
theorem N4 (fu:Nat) (a b:List Int) (h:a.length≤1000) (hf:2000<fu):F.pj fu a b=some (decide (a=b)):=by
 unfold F.pj
 by_cases hl:a.length=b.length
 ·have:=KJ a b hl (by omega) fu (by omega)
  have this:aB (F.uj fu a b) fu 0=_:=this
  rw[PL.bne_false (by omega),this]
  by_cases he:a=b
  ·simp only[he,if_true,decide_true];rfl
  ·simp only[he,if_false,decide_false];rfl
 ·rw[PL.bne_true (by omega),PL.cw (fun e=>hl (by rw[e]))]
  rfl
theorem BL (t:List Int):∀M:List ae,∃N R,M=N++R∧(∀s∈N,s.time=t)∧(R=[]∨∃z R',R=z::R'∧z.time≠t)
 | []=>⟨[],[],rfl,by simp,.inl rfl⟩
 | x::M=>by
  by_cases h:x.time=t
  ·obtain⟨N,R,e,h1,h2⟩:=BL t M
   refine⟨x::N,R,by rw[e];rfl,fun s hs=>?_,h2⟩
   rcases aX.1 hs with hs | hs
   ·rw[hs];exact h
   ·exact h1 s hs
  ·exact⟨[],x::M,rfl,by simp,.inr ⟨x,M,rfl,h⟩⟩
theorem NL (fu:Nat) (hf:5000<fu){D N R:List ae}{x:ae}(hx:(N++R)[0]?=some x) (hN:∀s∈N,s.time=x.time) (hNl:0<N.length) (hR:R=[]∨∃z R',R=z::R'∧z.time≠x.time) (ht:Tm (N++R)) (hl:N.length+R.length≤2000):
  F.kB fu (D.length:Int) ((N.length+R.length:Nat):Int) (D++(N++R)) (D.length:Int) ((N.length+R.length:Nat):Int)=some (if R=[] then -1 else(N.length:Int),D++(N++R),(D.length:Int),((N.length+R.length:Nat):Int)):=by
 have hx0:(D++(N++R))[D.length+0]?=some x:=by rw[cS (by omega),Nat.add_sub_cancel_left];exact hx
 have hrun:∀s:ae,s.time.length≤1000→F.ov fu s (D.length:Int) ((N.length+R.length:Nat):Int) (D++(N++R))=some (!(decide (s.time=x.time)),(D.length:Int),((N.length+R.length:Nat):Int),D++(N++R)):=fun s hs=>by
  unfold F.ov
  simp only[bh,show Int.toNat 0=0 from rfl,hx0,ab,N4 fu _ _ hs (by omega)]
  rw[bK (by omega),ab]
 have hb:Nat.beq (D++(N++R)).length (D++(N++R)).length=true:=aG _
 have hloop:=L4 (body:=F.g8 fu ((N.length+R.length:Nat):Int))
  (fun q=>∃k:Nat,q=((k:Int),(D.length:Int),((N.length+R.length:Nat):Int),(D.length:Int),((N.length+R.length:Nat):Int),D++(N++R))∧k≤N.length)
  (fun q=>N.length-q.1.toNat) (if R=[] then Ex.dS ((D.length:Int),((N.length+R.length:Nat):Int),D++(N++R)) else Ex.ret ((N.length:Int),D++(N++R),(D.length:Int),((N.length+R.length:Nat):Int))) (by
   rintro _ ⟨k,rfl,hk⟩
   by_cases hk2:k<N.length
   ·have hs:(N++R)[k]?=some N[k]:=by rw[cF hk2];exact ag hk2
    have hsD:(D++(N++R))[D.length+k]?=some N[k]:=by rw[cS (by omega),Nat.add_sub_cancel_left];exact hs
    have hst:=hN _ (ed hk2)
    refine .inl ⟨(((k+1:Nat):Int),(D.length:Int),((N.length+R.length:Nat):Int),(D.length:Int),((N.length+R.length:Nat):Int),D++(N++R)),?_,⟨k+1,rfl,by omega⟩,by simp only;omega⟩
    have hw:IntKind.i64.wrap ((k:Int)+1)=((k+1:Nat):Int):=by rw[i64 (by omega) (by omega)];omega
    have d:decide ((k:Int)<((N.length+R.length:Nat):Int))=true:=PL.dl (by omega)
    have c:=bK (p:=(0:Int)≤(k:Int)∧(k:Int)<((N.length+R.length:Nat):Int)) (by omega)
    simp only[F.g8,bh,d,cond_true,c,ab,hsD,hrun _ (ht _ (ar hs)),hb,hst,decide_true,jL,cond_false,hw]
   ·obtain rfl:k=N.length:=by omega
    refine .inr ?_
    rcases hR with rfl | ⟨z,R',rfl,hz⟩
    ·have d:decide ((N.length:Int)<((N.length+([]:List ae).length:Nat):Int))=false:=PL.cw (by simp)
     simp only[F.g8,bh,d,cond_false,if_true]
    ·have hs:(N++z::R')[N.length]?=some z:=by simp
     have hsD:(D++(N++z::R'))[D.length+N.length]?=some z:=by rw[cS (by omega),Nat.add_sub_cancel_left];exact hs
     have d:decide ((N.length:Int)<((N.length+(z::R').length:Nat):Int))=true:=PL.dl (by simp;omega)
     have c:=bK (p:=(0:Int)≤(N.length:Int)∧(N.length:Int)<((N.length+(z::R').length:Nat):Int)) (by simp;omega)
     simp only[F.g8,bh,d,cond_true,c,ab,hsD,hrun _ (ht _ (ar hs)),hb,hz,decide_false,iw]
     rfl) fu (0,(D.length:Int),((N.length+R.length:Nat):Int),(D.length:Int),((N.length+R.length:Nat):Int),D++(N++R)) ⟨0,rfl,by omega⟩ (by simp only;omega)
 unfold F.kB
 simp only[bh]
 rw[hloop]
 by_cases h:R=[]
 ·simp only[h,if_true];rfl
 ·simp only[h,if_false];rfl
theorem MG (fu:Nat){D N R:List ae}(hNl:0<N.length) (hl:N.length≤2000):F.nq fu (D.length:Int) (N.length:Int) (D++(N++R))=some (D++(N++R),N):=by
 unfold F.nq rR
 have e:((D++(N++R)).drop D.length).take N.length=N:=by simp
 simp only[bh,e]
 rw[if_neg (by omega),bK (by simp only[aj];omega),ab,bK (by simp only[dN,maxLen];omega),ab,dc]
section
variable {n:aP}{times:List (List aS)}{mix:List Int}
def JS (n:aP) (times:List (List aS)) (long:Nat) (s:ae):Prop:=s.time=sf long times s.aQ∧xA n times s.aQ
end
theorem wi {n:aP}{times:List (List aS)}(go:zK n times):∀q∈eQ n,xA n times q:=fun q hq=>by
 obtain⟨hl,hz,hg⟩:=mZ go.wn
 unfold eQ at hq
 obtain⟨⟨s,k⟩,h1,h2⟩:=g7.1 hq
 obtain⟨j,hj⟩:=bT h1
 obtain⟨e1,e2⟩:=CR hj
 simp only at e1 e2
 subst e2
 unfold qm at h2
 obtain⟨x,hx,rfl⟩:=iV.1 h2
 have gs:=hg s (ar e1)
 obtain⟨a,b⟩:=Pr gs.dz hx
 have hk:k<times.length:=by rw[go.len];exact eT e1
 have ht:times[k]?=some times[k]:=ag hk
 obtain⟨r1,r2⟩:=go.row k _ s ht e1
 exact⟨by simp,s,_,e1,ht,gs,a,b,r1,r2⟩
end Go.DN.So
