/-
  Orders: the plain law of OrderRuns: all turns; the law dm F.
-/
import Derived.Test.YtfkigaldejbeiaaFvO
set_option linter.unusedSectionVars false
set_option linter.unusedSimpArgs false
set_option linter.unusedVariables false
namespace Go.DN.So
open Go.AM Go.DN
theorem Iu (fu:Nat) (a b:List Int) (h:a.length≤1000) (hf:2000<fu):F.mW fu a b=some (decide (a=b)):=by
 unfold F.mW
 by_cases hl:a.length=b.length
 ·have:=LB a b hl (by omega) fu (by omega)
  have this:aB (F.uN fu a b) fu 0=_:=this
  rw[PL.bne_false (by omega),this]
  by_cases he:a=b
  ·simp only[he,if_true,decide_true];rfl
  ·simp only[he,if_false,decide_false];rfl
 ·rw[PL.bne_true (by omega),PL.cA (fun e=>hl (by rw[e]))]
  rfl
theorem Cq (t:List Int):∀M:List af,∃N R,M=N++R∧(∀s∈N,s.time=t)∧(R=[]∨∃z R',R=z::R'∧z.time≠t)
 | []=>⟨[],[],rfl,by simp,.inl rfl⟩
 | x::M=>by
  by_cases h:x.time=t
  ·obtain⟨N,R,e,h1,h2⟩:=Cq t M
   refine⟨x::N,R,by rw[e];rfl,fun s hs=>?_,h2⟩
   rcases aZ.1 hs with hs | hs
   ·rw[hs];exact h
   ·exact h1 s hs
  ·exact⟨[],x::M,rfl,by simp,.inr ⟨x,M,rfl,h⟩⟩
theorem OL (fu:Nat) (hf:5000<fu){D N R:List af}{x:af}(hx:(N++R)[0]?=some x) (hN:∀s∈N,s.time=x.time) (hNl:0<N.length) (hR:R=[]∨∃z R',R=z::R'∧z.time≠x.time) (ht:Tm (N++R)) (hl:N.length+R.length≤2000):
  F.kG fu (D.length:Int) ((N.length+R.length:Nat):Int) (D++(N++R)) (D.length:Int) ((N.length+R.length:Nat):Int)=some (if R=[] then -1 else(N.length:Int),D++(N++R),(D.length:Int),((N.length+R.length:Nat):Int)):=by
 have hx0:(D++(N++R))[D.length+0]?=some x:=by rw[cV (by omega),Nat.add_sub_cancel_left];exact hx
 have hrun:∀s:af,s.time.length≤1000→F.oI fu s (D.length:Int) ((N.length+R.length:Nat):Int) (D++(N++R))=some (!(decide (s.time=x.time)),(D.length:Int),((N.length+R.length:Nat):Int),D++(N++R)):=fun s hs=>by
  unfold F.oI
  simp only[bc,show Int.toNat 0=0 from rfl,hx0,ae,Iu fu _ _ hs (by omega)]
  rw[bJ (by omega),ae]
 have hb:Nat.beq (D++(N++R)).length (D++(N++R)).length=true:=aI _
 have hloop:=MX (body:=F.ic fu ((N.length+R.length:Nat):Int))
  (fun q=>∃k:Nat,q=((k:Int),(D.length:Int),((N.length+R.length:Nat):Int),(D.length:Int),((N.length+R.length:Nat):Int),D++(N++R))∧k≤N.length)
  (fun q=>N.length-q.1.toNat) (if R=[] then Ex.dW ((D.length:Int),((N.length+R.length:Nat):Int),D++(N++R)) else Ex.ret ((N.length:Int),D++(N++R),(D.length:Int),((N.length+R.length:Nat):Int))) (by
   rintro _ ⟨k,rfl,hk⟩
   by_cases hk2:k<N.length
   ·have hs:(N++R)[k]?=some N[k]:=by rw[cH hk2];exact ag hk2
    have hsD:(D++(N++R))[D.length+k]?=some N[k]:=by rw[cV (by omega),Nat.add_sub_cancel_left];exact hs
    have hst:=hN _ (dE hk2)
    refine .inl ⟨(((k+1:Nat):Int),(D.length:Int),((N.length+R.length:Nat):Int),(D.length:Int),((N.length+R.length:Nat):Int),D++(N++R)),?_,⟨k+1,rfl,by omega⟩,by simp only;omega⟩
    have hw:IntKind.i64.wrap ((k:Int)+1)=((k+1:Nat):Int):=by rw[i64 (by omega) (by omega)];omega
    have d:decide ((k:Int)<((N.length+R.length:Nat):Int))=true:=PL.du (by omega)
    have c:=bJ (p:=(0:Int)≤(k:Int)∧(k:Int)<((N.length+R.length:Nat):Int)) (by omega)
    simp only[F.ic,bc,d,cond_true,c,ae,hsD,hrun _ (ht _ (ar hs)),hb,hst,decide_true,jQ,cond_false,hw]
   ·obtain rfl:k=N.length:=by omega
    refine .inr ?_
    rcases hR with rfl | ⟨z,R',rfl,hz⟩
    ·have d:decide ((N.length:Int)<((N.length+([]:List af).length:Nat):Int))=false:=PL.cA (by simp)
     simp only[F.ic,bc,d,cond_false,if_true]
    ·have hs:(N++z::R')[N.length]?=some z:=by simp
     have hsD:(D++(N++z::R'))[D.length+N.length]?=some z:=by rw[cV (by omega),Nat.add_sub_cancel_left];exact hs
     have d:decide ((N.length:Int)<((N.length+(z::R').length:Nat):Int))=true:=PL.du (by simp;omega)
     have c:=bJ (p:=(0:Int)≤(N.length:Int)∧(N.length:Int)<((N.length+(z::R').length:Nat):Int)) (by simp;omega)
     simp only[F.ic,bc,d,cond_true,c,ae,hsD,hrun _ (ht _ (ar hs)),hb,hz,decide_false,iD]
     rfl) fu (0,(D.length:Int),((N.length+R.length:Nat):Int),(D.length:Int),((N.length+R.length:Nat):Int),D++(N++R)) ⟨0,rfl,by omega⟩ (by simp only;omega)
 unfold F.kG
 simp only[bc]
 rw[hloop]
 by_cases h:R=[]
 ·simp only[h,if_true];rfl
 ·simp only[h,if_false];rfl
theorem Ny (fu:Nat){D N R:List af}(hNl:0<N.length) (hl:N.length≤2000):F.nD fu (D.length:Int) (N.length:Int) (D++(N++R))=some (D++(N++R),N):=by
 unfold F.nD sv
 have e:((D++(N++R)).drop D.length).take N.length=N:=by simp
 simp only[bc,e]
 rw[if_neg (by omega),bJ (by simp only[ak];omega),ae,bJ (by simp only[cX,maxLen];omega),ae,dj]
section
variable {n:aM}{times:List (List aO)}{mix:List Int}
def JS (n:aM) (times:List (List aO)) (long:Nat) (s:af):Prop:=s.time=ph long times s.aS∧yg n times s.aS
end
theorem wX {n:aM}{times:List (List aO)}(go:yh n times):∀q∈eD n,yg n times q:=fun q hq=>by
 obtain⟨hl,hz,hg⟩:=lU go.wn
 unfold eD at hq
 obtain⟨⟨s,k⟩,h1,h2⟩:=ib.1 hq
 obtain⟨j,hj⟩:=bR h1
 obtain⟨e1,e2⟩:=tu hj
 simp only at e1 e2
 subst e2
 unfold nC at h2
 obtain⟨x,hx,rfl⟩:=gS.1 h2
 have gs:=hg s (ar e1)
 obtain⟨a,b⟩:=vX gs.dm hx
 have hk:k<times.length:=by rw[go.len];exact ep e1
 have ht:times[k]?=some times[k]:=ag hk
 obtain⟨r1,r2⟩:=go.row k _ s ht e1
 exact⟨by simp,s,_,e1,ht,gs,a,b,r1,r2⟩
end Go.DN.So
