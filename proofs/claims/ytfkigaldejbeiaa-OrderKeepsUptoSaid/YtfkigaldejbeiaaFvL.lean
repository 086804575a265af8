/-
  Orders: the plain law of OrderRuns: all eQ, with their times.
-/
import Derived.Test.YtfkigaldejbeiaaFvK
set_option linter.unusedSectionVars false
set_option linter.unusedSimpArgs false
set_option linter.unusedVariables false
namespace Go.DN.So
open Go.AM Go.DN
theorem PH (fu:Nat){times:List (List aS)}(h8:∀x∈times,x.length≤8) (hl:times.length≤256) (hf:1000<fu):
  ∃long:Nat,long≤8∧(∀x∈times,x.length≤long)∧aB (F.jS fu times) fu (0,0)=some (long:Int):=by
 obtain⟨r,h1,h2⟩:=uu (body:=F.jS fu times)
  (fun q:Int×Int=>∃k m:Nat,q=((k:Int),(m:Int))∧k≤times.length∧m≤8∧∀(j:Nat) (x:List aS),j<k→times[j]?=some x→x.length≤m)
  (fun q=>times.length-q.1.toNat) (fun r=>∃m:Nat,r=(m:Int)∧m≤8∧∀x∈times,x.length≤m) (by
   rintro⟨i,v⟩ ⟨k,m,e,hk,hm,hj⟩
   cases e
   by_cases h:k<times.length
   ·have hx:times[k]?=some times[k]:=ag h
    have hw:=du h (by omega)
    have hx8:=h8 _ (ed h)
    refine .inl ⟨(((k+1:Nat):Int),((max times[k].length m:Nat):Int)),?_,⟨k+1,_,rfl,by omega,by omega,fun j x hj1 hj2=>?_⟩,by simp only;omega⟩
    ·simp only[F.jS,dec_lt hx,cond_true,bJ hx,ab,hw]
     split <;> (congr 4;omega)
    ·by_cases hjk:j=k
     ·subst hjk;rw[hx] at hj2;cases hj2;omega
     ·have:=hj j x (by omega) hj2;omega
   ·obtain rfl:k=times.length:=by omega
    refine .inr ⟨(m:Int),by simp only[F.jS,ff,cond_false],m,rfl,hm,fun x hx=>?_⟩
    obtain⟨j,hj2⟩:=bT hx
    exact hj j x (eT hj2) hj2) fu (0,0) ⟨0,0,rfl,by omega,by omega,fun j x h=>by omega⟩ (by simp only;omega)
 obtain⟨m,rfl,h3,h4⟩:=h2
 exact⟨m,h3,h4,h1⟩
def n9 (n:aP) (k:Nat):List bE:=(n.cd.zipIdx.drop k).flatMap fun q=>qm q.2 q.1
theorem zT {n:aP}{k:Nat}{s:dh}(h:n.cd[k]?=some s):n9 n k=qm k s++n9 n (k+1):=by
 have hz:n.cd.zipIdx[k]?=some (s,k):=by rw[List.getElem?_zipIdx,h];simp
 have hk:=eT hz
 unfold n9
 rw[bV hk,cn]
 rw[(al.1 hz).2]
theorem BK (n:aP):n9 n n.cd.length=[]:=by
 unfold n9
 rw[eE (by simp)];rfl
theorem DZ (fu:Nat){n:aP}{times:List (List aS)}(go:zK n times){long:Nat}(h2:long≤8) (hlong:∀x∈times,x.length≤long) (hf:2000000<fu):
  ∀(m k:Nat) (o:xB) (f:Nat),k+m=n.cd.length→m<f→
  (o.1.length+(n9 n k).length≤1024→∃o':xB,aB (F.gg fu n) f ((k:Int),times,0,(long:Int),[],o.1)=some (.dS (times,0,(long:Int),[],o'.1))∧o'.1.map pr=o.1.map pr++(n9 n k).map (pq long times))∧
  (1024<o.1.length+(n9 n k).length→aB (F.gg fu n) f ((k:Int),times,0,(long:Int),[],o.1)=some (.ret (5,[])))
 | 0,k,o,f,hk,hm=>by
  obtain⟨f,rfl⟩:∃g,f=g+1:=⟨f-1,by omega⟩
  obtain rfl:k=n.cd.length:=by omega
  rw[BK]
  refine⟨fun _=>⟨o,by simp only[aB,F.gg,ff,cond_false],by simp⟩,fun h=>by have:=o.2.1;simp at h;omega⟩
 | m+1,k,o,f,hk,hm=>by
  obtain⟨f,rfl⟩:∃g,f=g+1:=⟨f-1,by omega⟩
  obtain⟨hl,hz,hg⟩:=mZ go.wn
  have hks:k<n.cd.length:=by omega
  have hs:n.cd[k]?=some n.cd[k]:=ag hks
  generalize n.cd[k]=s at hs
  have gs:=hg s (ar hs)
  have hkt:k<times.length:=by rw[go.len];omega
  have ht:times[k]?=some times[k]:=ag hkt
  generalize times[k]=rows at ht
  obtain⟨r8,rW⟩:=go.row k rows s ht hs
  have ha:=Qg fu gs.dz ht rW (hlong rows (ar ht)) h2 gs.bad o (by omega)
  have hw:=du hks (by omega)
  obtain⟨r1,r2⟩:=Qu long k rows (qh s.bI) o
  rw[zT hs]
  have hlen:(qm k s).length=(qh s.bI).length:=by simp[qm]
  have b0:((0:Int)==0)=true:=rfl
  have b2:((2:Int)==0)=false:=rfl
  have b3:((2:Int)==1)=false:=rfl
  have hgd:times.getD k []=rows:=by rw[aL,ht];rfl
  simp only[aB,F.gg,dec_lt hs,cond_true,bJ hs,ab,F.pw,ha,aj,hlen]
  by_cases hroom:o.1.length+(qh s.bI).length≤1024
  ·obtain⟨g1,g2⟩:=r1 hroom
   have hlo:(dE (yS long k rows) (qh s.bI) o).1.1.length=o.1.length+(qh s.bI).length:=by
    have:=congrArg List.length g2
    simpa using this
   obtain⟨q1,q2⟩:=DZ fu go h2 hlong hf m (k+1) (dE (yS long k rows) (qh s.bI) o).1 f (by omega) (by omega)
   simp only[g1,if_true,b0,cond_true,hw]
   refine⟨fun h=>?_,fun h=>q2 (by omega)⟩
   obtain⟨o',e1,e2⟩:=q1 (by omega)
   refine⟨o',e1,?_⟩
   rw[e2,g2,kv,aC]
   congr 2
   unfold qm
   rw[gd]
   refine ez fun x _=>?_
   simp only[Function.comp,pq,sf,bh,hgd]
  ·have g1:=r2 (by omega)
   simp only[g1,if_false,b2,cond_false,b3]
   refine⟨fun h=>by omega,fun _=>trivial⟩
theorem xE (fu:Nat){n:aP}{times:List (List aS)}(go:zK n times) (hs:n.cA.length≤1048576) (hf:68719476750<fu):
  (1024<(eQ n).length∧F.im fu n times=some (5,[])∧True)∨
  ((eQ n).length≤1024∧True∧∃(long:Nat) (o:List ae),long≤8∧(∀x∈times,x.length≤long)∧F.im fu n times=some (0,o)∧o.map pr=(eQ n).map (pq long times)∧H7 o):=by
 obtain⟨hl,hz,hg⟩:=mZ go.wn
 have hw:oW n times=0:=by
  unfold oW
  rw[if_neg (by have:=go.wn;omega),if_neg (by have:=go.len;omega)]
  have:∀l:List (List aS×Nat),(∀q∈l,pg n q=0)→PL.fc (pg n) l=0:=fun l=>by
   induction l with
   | nil=>intro _;rfl
   | cons q l ih=>intro h;rw[PL.re,if_pos (h q av)];exact ih fun q hq=>h q (ao _ hq)
  refine this _ fun q hq=>?_
  obtain⟨k,hk⟩:=bT hq
  obtain⟨e1,e2⟩:=CR hk
  have hks:k<n.cd.length:=by rw[←go.len];exact eT e1
  have hsk:n.cd[k]?=some n.cd[k]:=ag hks
  obtain⟨r8,rW⟩:=go.row k q.1 _ e1 hsk
  unfold pg
  rw[if_neg (by omega),e2]
  have:∀l:List aS,(∀r∈l,fK r (p9 n k)=0)→PL.fc (fun r=>fK r (p9 n k)) l=0:=fun l=>by
   induction l with
   | nil=>intro _;rfl
   | cons q l ih=>intro h;rw[PL.re,if_pos (h q av)];exact ih fun q hq=>h q (ao _ hq)
  refine this _ fun r hr=>?_
  simp only[p9,hsk]
  exact rW r hr
 have w1:=Ea fu n times hs (by omega)
 obtain⟨long,l1,l2,l3⟩:=PH fu (fun x hx=>by
  obtain⟨k,hk⟩:=bT hx
  have hks:k<n.cd.length:=by rw[←go.len];exact eT hk
  exact(go.row k x _ hk (ag hks)).1) (by rw[go.len];exact hl) (by omega)
 obtain⟨q1,q2⟩:=DZ fu go l1 l2 (by omega) n.cd.length 0 ⟨[],by simp,fun i s h=>by simp at h⟩ fu (by omega) (by omega)
 have hsp:n9 n 0=eQ n:=rfl
 rw[hsp] at q1 q2
 have b0:((0:Int) !=0)=false:=rfl
 by_cases h:(eQ n).length≤1024
 ·obtain⟨o',e1,e2⟩:=q1 (by simpa using h)
  refine .inr ⟨h,trivial,long,o'.1,l1,l2,?_,by simpa using e2,o'.2.2⟩
  ·unfold F.im
   rw[w1,hw]
   have e1:aB (F.gg fu n) fu (0,times,0,(long:Int),[],[])=_:=e1
   simp only[ab,b0,cond_false,l3,e1]
   rfl
 ·refine .inl ⟨by omega,?_,trivial⟩
  ·unfold F.im
   rw[w1,hw]
   have e1:aB (F.gg fu n) fu (0,times,0,(long:Int),[],[])=_:=q2 (by simp;omega)
   simp only[ab,b0,cond_false,l3,e1]
   rfl
end Go.DN.So
