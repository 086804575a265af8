/-
  Orders: the plain law of OrderRuns: all eD, with their times.
-/
import Derived.Test.YtfkigaldejbeiaaFvK
set_option linter.unusedSimpArgs false
set_option linter.unusedVariables false
namespace Go.DN.So
open Go.AM Go.DN
theorem Qz (fu:Nat){times:List (List aO)}(h8:∀x∈times,x.length≤8) (hl:times.length≤256) (hf:1000<fu):
  ∃long:Nat,long≤8∧(∀x∈times,x.length≤long)∧aB (F.jX fu times) fu (0,0)=some (long:Int):=by
 obtain⟨r,h1,h2⟩:=uX (body:=F.jX fu times)
  (fun q:Int×Int=>∃k m:Nat,q=((k:Int),(m:Int))∧k≤times.length∧m≤8∧∀(j:Nat) (x:List aO),j<k→times[j]?=some x→x.length≤m)
  (fun q=>times.length-q.1.toNat) (fun r=>∃m:Nat,r=(m:Int)∧m≤8∧∀x∈times,x.length≤m) (by
   rintro⟨i,v⟩ ⟨k,m,e,hk,hm,hj⟩
   cases e
   by_cases h:k<times.length
   ·have hx:times[k]?=some times[k]:=ag h
    have hw:=dh h (by omega)
    have hx8:=h8 _ (dE h)
    refine .inl ⟨(((k+1:Nat):Int),((max times[k].length m:Nat):Int)),?_,⟨k+1,_,rfl,by omega,by omega,fun j x hj1 hj2=>?_⟩,by simp only;omega⟩
    ·simp only[F.jX,dec_lt hx,cond_true,bM hx,ae,hw]
     split <;> (congr 4;omega)
    ·by_cases hjk:j=k
     ·subst hjk;rw[hx] at hj2;cases hj2;omega
     ·have:=hj j x (by omega) hj2;omega
   ·obtain rfl:k=times.length:=by omega
    refine .inr ⟨(m:Int),by simp only[F.jX,eF,cond_false],m,rfl,hm,fun x hx=>?_⟩
    obtain⟨j,hj2⟩:=bR hx
    exact hj j x (ep hj2) hj2) fu (0,0) ⟨0,0,rfl,by omega,by omega,fun j x h=>by omega⟩ (by simp only;omega)
 obtain⟨m,rfl,h3,h4⟩:=h2
 exact⟨m,h3,h4,h1⟩
def ou (n:aM) (k:Nat):List bE:=(n.bC.zipIdx.drop k).flatMap fun q=>nC q.2 q.1
theorem AF {n:aM}{k:Nat}{s:c9}(h:n.bC[k]?=some s):ou n k=nC k s++ou n (k+1):=by
 have hz:n.bC.zipIdx[k]?=some (s,k):=by rw[List.getElem?_zipIdx,h];simp
 have hk:=ep hz
 unfold ou
 rw[bY hk,cp]
 rw[(al.1 hz).2]
theorem Cp (n:aM):ou n n.bC.length=[]:=by
 unfold ou
 rw[eI (by simp)];rfl
theorem EG (fu:Nat){n:aM}{times:List (List aO)}(go:yh n times){long:Nat}(h2:long≤8) (hlong:∀x∈times,x.length≤long) (hf:2000000<fu):
  ∀(m k:Nat) (o:yi) (f:Nat),k+m=n.bC.length→m<f→
  (o.1.length+(ou n k).length≤1024→∃o':yi,aB (F.gl fu n) f ((k:Int),times,0,(long:Int),[],o.1)=some (.dW (times,0,(long:Int),[],o'.1))∧o'.1.map pr=o.1.map pr++(ou n k).map (pq long times))∧
  (1024<o.1.length+(ou n k).length→aB (F.gl fu n) f ((k:Int),times,0,(long:Int),[],o.1)=some (.ret (5,[])))
 | 0,k,o,f,hk,hm=>by
  obtain⟨f,rfl⟩:∃g,f=g+1:=⟨f-1,by omega⟩
  obtain rfl:k=n.bC.length:=by omega
  rw[Cp]
  refine⟨fun _=>⟨o,by simp only[aB,F.gl,eF,cond_false],by simp⟩,fun h=>by have:=o.2.1;simp at h;omega⟩
 | m+1,k,o,f,hk,hm=>by
  obtain⟨f,rfl⟩:∃g,f=g+1:=⟨f-1,by omega⟩
  obtain⟨hl,hz,hg⟩:=lU go.wn
  have hks:k<n.bC.length:=by omega
  have hs:n.bC[k]?=some n.bC[k]:=ag hks
  generalize n.bC[k]=s at hs
  have gs:=hg s (ar hs)
  have hkt:k<times.length:=by rw[go.len];omega
  have ht:times[k]?=some times[k]:=ag hkt
  generalize times[k]=rows at ht
  obtain⟨r8,rW⟩:=go.row k rows s ht hs
  have ha:=Q9 fu gs.dm ht rW (hlong rows (ar ht)) h2 gs.bad o (by omega)
  have hw:=dh hks (by omega)
  obtain⟨r1,r2⟩:=Rm long k rows (qA s.ba) o
  rw[AF hs]
  have hlen:(nC k s).length=(qA s.ba).length:=by simp[nC]
  have b0:((0:Int)==0)=true:=rfl
  have b2:((2:Int)==0)=false:=rfl
  have b3:((2:Int)==1)=false:=rfl
  have hgd:times.getD k []=rows:=by rw[aE,ht];rfl
  simp only[aB,F.gl,dec_lt hs,cond_true,bM hs,ae,F.pN,ha,ak,hlen]
  by_cases hroom:o.1.length+(qA s.ba).length≤1024
  ·obtain⟨g1,g2⟩:=r1 hroom
   have hlo:(dI (yS long k rows) (qA s.ba) o).1.1.length=o.1.length+(qA s.ba).length:=by
    have:=congrArg List.length g2
    simpa using this
   obtain⟨q1,q2⟩:=EG fu go h2 hlong hf m (k+1) (dI (yS long k rows) (qA s.ba) o).1 f (by omega) (by omega)
   simp only[g1,if_true,b0,cond_true,hw]
   refine⟨fun h=>?_,fun h=>q2 (by omega)⟩
   obtain⟨o',e1,e2⟩:=q1 (by omega)
   refine⟨o',e1,?_⟩
   rw[e2,g2,jC,aC]
   congr 2
   unfold nC
   rw[fR]
   refine eB fun x _=>?_
   simp only[Function.comp,pq,ph,bc,hgd]
  ·have g1:=r2 (by omega)
   simp only[g1,if_false,b2,cond_false,b3]
   refine⟨fun h=>by omega,fun _=>trivial⟩
theorem ym (fu:Nat){n:aM}{times:List (List aO)}(go:yh n times) (hs:n.cC.length≤1048576) (hf:68719476750<fu):
  (1024<(eD n).length∧F.iA fu n times=some (5,[])∧True)∨
  ((eD n).length≤1024∧True∧∃(long:Nat) (o:List af),long≤8∧(∀x∈times,x.length≤long)∧F.iA fu n times=some (0,o)∧o.map pr=(eD n).map (pq long times)∧I0 o):=by
 obtain⟨hl,hz,hg⟩:=lU go.wn
 have hw:oW n times=0:=by
  unfold oW
  rw[if_neg (by have:=go.wn;omega),if_neg (by have:=go.len;omega)]
  have:∀l:List (List aO×Nat),(∀q∈l,pE n q=0)→PL.fj (pE n) l=0:=fun l=>by
   induction l with
   | nil=>intro _;rfl
   | cons q l ih=>intro h;rw[PL.rI,if_pos (h q au)];exact ih fun q hq=>h q (ao _ hq)
  refine this _ fun q hq=>?_
  obtain⟨k,hk⟩:=bR hq
  obtain⟨e1,e2⟩:=tu hk
  have hks:k<n.bC.length:=by rw[←go.len];exact ep e1
  have hsk:n.bC[k]?=some n.bC[k]:=ag hks
  obtain⟨r8,rW⟩:=go.row k q.1 _ e1 hsk
  unfold pE
  rw[if_neg (by omega),e2]
  have:∀l:List aO,(∀r∈l,fN r (qs n k)=0)→PL.fj (fun r=>fN r (qs n k)) l=0:=fun l=>by
   induction l with
   | nil=>intro _;rfl
   | cons q l ih=>intro h;rw[PL.rI,if_pos (h q au)];exact ih fun q hq=>h q (ao _ hq)
  refine this _ fun r hr=>?_
  simp only[qs,hsk]
  exact rW r hr
 have w1:=ES fu n times hs (by omega)
 obtain⟨long,l1,l2,l3⟩:=Qz fu (fun x hx=>by
  obtain⟨k,hk⟩:=bR hx
  have hks:k<n.bC.length:=by rw[←go.len];exact ep hk
  exact(go.row k x _ hk (ag hks)).1) (by rw[go.len];exact hl) (by omega)
 obtain⟨q1,q2⟩:=EG fu go l1 l2 (by omega) n.bC.length 0 ⟨[],by simp,fun i s h=>by simp at h⟩ fu (by omega) (by omega)
 have hsp:ou n 0=eD n:=rfl
 rw[hsp] at q1 q2
 have b0:((0:Int) !=0)=false:=rfl
 by_cases h:(eD n).length≤1024
 ·obtain⟨o',e1,e2⟩:=q1 (by simpa using h)
  refine .inr ⟨h,trivial,long,o'.1,l1,l2,?_,by simpa using e2,o'.2.2⟩
  ·unfold F.iA
   rw[w1,hw]
   have e1:aB (F.gl fu n) fu (0,times,0,(long:Int),[],[])=_:=e1
   simp only[ae,b0,cond_false,l3,e1]
   rfl
 ·refine .inl ⟨by omega,?_,trivial⟩
  ·unfold F.iA
   rw[w1,hw]
   have e1:aB (F.gl fu n) fu (0,times,0,(long:Int),[],[])=_:=q2 (by simp;omega)
   simp only[ae,b0,cond_false,l3,e1]
   rfl
end Go.DN.So
