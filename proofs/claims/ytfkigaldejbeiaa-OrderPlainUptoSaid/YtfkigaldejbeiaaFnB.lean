/-
  Orders: without the document's answer: lists of eD that are done one after the other; what order.wL does.
-/
import Derived.Test.YtfkigaldejbeiaaFnA
set_option linter.unusedSectionVars false
set_option linter.unusedSimpArgs false
set_option linter.unusedVariables false
namespace Go.DN.So
open Go.AM Go.DN
def mu (n:aM) (l:List af) (m:List (List Int)):List (List Int):=l.foldl (fun m s=>iQ n s.aS m) m
theorem Be (n:aM) (a b:List af) (m:List (List Int)):mu n (a++b) m=mu n b (mu n a m):=iC
theorem EN {n:aM}:∀{l:List af}{m:List (List Int)},(∀s∈l,qw n s.aS)→Fits n m→Fits n (mu n l m)
 | [],m,_,hm=>hm
 | s::l,m,hg,hm=>EN (l:=l) (fun x hx=>hg x (ao _ hx)) (rT (hg s au) hm)
theorem Cy {n:aM}{x:af}(gx:qw n x.aS):∀{l:List af}{m:List (List Int)},(∀s∈l,qw n s.aS∧gw n x.aS s.aS=false)→Fits n m→iQ n x.aS (mu n l m)=mu n l (iQ n x.aS m)
 | [],m,_,_=>rfl
 | s::l,m,hg,hm=>by
  obtain⟨g1,g2⟩:=hg s au
  show iQ n x.aS (mu n l (iQ n s.aS m))=mu n l (iQ n s.aS (iQ n x.aS m))
  rw[Cy gx (l:=l) (fun y hy=>hg y (ao _ hy)) (rT g1 hm),N6 gx g1 g2 hm]
theorem RX {n:aM}:∀{l P:List af}{m:List (List Int)},P.Perm l→l.Pairwise (fun a b=>a.number<b.number)→P.Pairwise (fun x y=>y.number<x.number→gw n y.aS x.aS=false)→(∀s∈l,qw n s.aS)→Fits n m→mu n P m=mu n l m
 | [],P,m,hp,_,_,_,_=>by rw[List.Perm.eq_nil hp]
 | x::l,P,m,hp,ho,hc,hg,hm=>by
  obtain⟨P1,P2,rfl⟩:=List.append_of_mem (hp.mem_iff.2 au)
  obtain⟨o1,o2⟩:=dQ.1 ho
  obtain⟨c1,c2,c3⟩:=ia.1 hc
  obtain⟨c4,c5⟩:=dQ.1 c2
  have hp2:(P1++P2).Perm l:=(List.perm_middle.symm.trans hp).cons_inv
  have hP1:∀s∈P1,qw n s.aS∧gw n x.aS s.aS=false:=fun s hs=>by
   have hl:s∈l:=hp2.mem_iff.1 (bV _ hs)
   exact⟨hg s (ao _ hl),c3 s hs x au (o1 s hl)⟩
  have gx:=hg x au
  have h1:mu n (P1++x::P2) m=mu n (P1++P2) (iQ n x.aS m):=by
   rw[Be,Be,←Cy gx hP1 hm];rfl
  rw[h1,RX hp2 o2 (ia.2 ⟨c1,c5,fun a ha b hb=>c3 a ha b (ao _ hb)⟩) (fun s hs=>hg s (ao _ hs)) (rT gx hm)]
  rfl
section
variable {n:aM}{times:List (List aO)}{mix:List Int}
theorem Fc (fu:Nat) (hf:2000<fu):
  ∀(c:Nat) (N J:List af) (eo:Nat) (mem:Sf n) (f:Nat),N.length=c→c<f→N.length+J.length≤2000→(∀s∈N,yg n times s.aS)→eo+c≤4000→
  ∃(turn':Nat) (N' J':List af),turn'≤eo+c∧N'.Perm N∧(mix=[]→N'=N)∧
   aB (F.lh fu n mix) f ((eo:Int),0,(c:Int),mem.1,N++J)=some ((turn':Int),mu n N' mem.1,J')
 | 0,N,J,eo,mem,f,hc,hcf,hl,hN,ht=>by
  obtain⟨f,rfl⟩:∃g,f=g+1:=⟨f-1,by omega⟩
  obtain rfl:N=[]:=dg.1 hc
  refine⟨eo,[],J,by omega,List.Perm.refl _,fun _=>rfl,?_⟩
  simp only[aB,F.lh]
  rfl
 | c+1,N,J,eo,mem,f,hc,hcf,hl,hN,ht=>by
  obtain⟨f,rfl⟩:∃g,f=g+1:=⟨f-1,by omega⟩
  obtain⟨k,turn',k1,k2,k3,_⟩:=qI mix eo (c+1) (by omega) (by omega) (by omega)
  have hk0:mix=[]→k=0:=fun e=>by
   subst e
   have k3:some ((0:Int),(eo:Int))=some ((k:Int),(turn':Int)):=k3
   simp only[fQ,ja] at k3
   omega
  obtain⟨N1,y,N2,rfl,hn1⟩:∃N1 y N2,N=N1++y::N2∧N1.length=k:=by
   refine⟨N.take k,N[k]'(by omega),N.drop (k+1),?_,by rw[aX];omega⟩
   rw[←bY (by omega),List.take_append_drop]
  have hlen:(N1++y::N2).length=N1.length+1+N2.length:=by simp;omega
  have gy:=hN y (by simp)
  obtain⟨s,rows,g1,g2,g3,g4,g5,_⟩:=gy.ex
  have hD:=EX fu g3 g4 g5 mem.2 (by omega)
  rw[Iy (times:=times) g1 g3 mem.2] at hD
  obtain⟨J',j1,j2⟩:=R1 fu N1 N2 J y (by omega) (a:=(((Int.toNat 0:Nat)):Int)) (b:=(((Int.toNat ((c+1:Nat):Int):Nat)):Int)) (c:=(k:Int)) (d:=IntKind.wrap .i64 ((k:Int)+1)) rfl (by rw[bc];omega) (by omega) (by rw[i64 (by omega) (by omega)];omega)
  have hfit:=rT gy.r mem.2
  obtain⟨turn2,N',J2,a1,a2,a3,a4⟩:=Fc fu hf c (N1++N2) J' turn' ⟨iQ n y.aS mem.1,hfit⟩ f (by rw[ak];omega) (by omega) (by rw[ak];omega)
   (fun s hs=>hN s (by rcases cP.1 hs with h | h <;> simp[h])) (by omega)
  refine⟨turn2,y::N',J2,by omega,(List.Perm.cons y a2).trans List.perm_middle.symm,fun e=>?_,?_⟩
  ·have:=hk0 e
   obtain rfl:N1=[]:=dg.1 (by omega)
   rw[a3 e];rfl
  ·have d:decide ((((Int.toNat ((c+1:Nat):Int)):Nat):Int)>0)=true:=PL.du (by rw[bc];omega)
   have z:Int.toNat 0=0:=rfl
   have iy:((N1++y::N2)++J)[0+k]?=some y:=by rw[bT,←hn1];simp
   have hb:Nat.beq (iQ n y.aS mem.1).length mem.1.length=true:=by rw[hfit.len,mem.2.len];exact aI _
   have hb2:Nat.beq (N1++(N2++J')).length (N1++(y::(N2++J))).length=true:=B9 (by simp only[ak,bA];omega)
   have c1:=bJ (p:=(0:Int)≤(k:Int)∧(k:Int)<((c+1:Nat):Int)) (by omega)
   rw[bc,z] at j2
   simp only[aB,F.lh,d,cond_true]
   simp only[bc,z]
   rw[k3]
   simp only[ae,c1,bc,iy,RM gy.pos g1,hD,hb,cond_true]
   rw[show(N1++y::N2)++J=N1++(y::(N2++J)) by simp]
   simp only[j2,ae,hb2,cond_true,z,bc]
   rw[show((N1.length+N2.length:Nat):Int)=(c:Int) by omega]
   have a4:aB (F.lh fu n mix) f ((turn':Int),0,(c:Int),iQ n y.aS mem.1,(N1++N2)++J')=some ((turn2:Int),mu n (y::N') mem.1,J2):=a4
   simpa using a4
def Tw (P:List af):Prop:=P.Pairwise le
theorem EQ (fu:Nat) (hf:6000<fu){long:Nat}(h8:long≤8) (hlong:∀x∈times,x.length≤long):
  ∀(c:Nat) (M D:List af) (eo:Nat) (mem:Sf n) (f:Nat),M.length≤c→c<f→M.length≤1024→gg M→(∀s∈M,JS n times long s)→eo+M.length≤3000→
  ∃(P w:List af) (a b:Int),aB (F.pU fu n mix) f ((eo:Int),D++M,mem.1,(D.length:Int),(M.length:Int))=some (w,mu n P mem.1,a,b)∧P.Perm M∧(mix=[]→P=M)∧Tw P
 | c,[],D,eo,mem,f,hc,hcf,hl,hs,hj,ht=>by
  obtain⟨f,rfl⟩:∃g,f=g+1:=⟨f-1,by omega⟩
  exact⟨[],_,_,_,rfl,List.Perm.refl _,fun _=>rfl,List.Pairwise.nil⟩
 | 0,x::M,D,eo,mem,f,hc,hcf,hl,hs,hj,ht=>by simp at hc
 | c+1,x::M,D,eo,mem,f,hc,hcf,hl,hs,hj,ht=>by
  obtain⟨f,rfl⟩:∃g,f=g+1:=⟨f-1,by omega⟩
  obtain⟨N,R,e,hN,hR⟩:=Cq x.time (x::M)
  have hx:(N++R)[0]?=some x:=by rw[←e];rfl
  have hNl:0<N.length:=by
   cases N with
   | cons=>simp
   | nil=>
    rcases hR with rfl | ⟨z,R',rfl,hz⟩
    ·simp at e
    ·simp at e;exact absurd (by rw[←e.1]) hz
  rw[e] at hl hs hj ht hc⊢
  rw[ak] at hl ht hc⊢
  have tm:Tm (N++R):=fun s h=>by
   have:=(SO h8 hlong (hj s h).2).2
   rw[←(hj s h).1] at this
   omega
  have hidx:=OL fu (by omega) (D:=D) hx hN hNl hR tm (by omega)
  have hcl:=Ny fu (D:=D) (R:=R) hNl (by omega)
  obtain⟨turn',N',J',a1,a2,a3,a4⟩:=Fc (mix:=mix) (times:=times) fu (by omega) N.length N [] eo mem fu rfl (by omega) (by simp;omega) (fun s h=>(hj s (bV _ h)).2) (by omega)
  have hgN:∀s∈N',qw n s.aS:=fun s hm=>(hj s (bV _ (a2.mem_iff.1 hm))).2.r
  have d:decide (((N.length+R.length:Nat):Int)>0)=true:=PL.du (by omega)
  have hb:Nat.beq (D++(N++R)).length (D++(N++R)).length=true:=aI _
  obtain⟨P,w,p,q,b1,b2,b3,b4⟩:=EQ fu hf h8 hlong c R (D++N) turn' ⟨mu n N' mem.1,EN hgN mem.2⟩ f (by omega) (by omega) (by omega) hs.right (fun s h=>hj s (cF _ h)) (by omega)
  refine⟨N'++P,w,p,q,?_,a2.append b2,fun e=>by rw[a3 e,b3 e],?_⟩
  ·have hk:(cond (decide ((if R=[] then(-1:Int) else(N.length:Int))<0)) (some ((N.length+R.length:Nat):Int)) (some (if R=[] then(-1:Int) else(N.length:Int))):Option Int)=some (N.length:Int):=by
    by_cases h:R=[]
    ·subst h;simp
    ·simp only[h,if_false,PL.cA (show ¬(N.length:Int)<0 by omega),cond_false]
   have c1:=bJ (p:=(0:Int)≤(N.length:Int)∧(N.length:Int)≤((N.length+R.length:Nat):Int)) (by omega)
   rw[cc] at a4
   simp only[aB,F.pU,bc,d,cond_true,hidx,ae,hb,hk,c1,hcl]
   have a4:aB (F.lh fu n mix) fu ((eo:Int),((0:Nat):Int),(N.length:Int),mem.1,N)=_:=a4
   rw[a4]
   simp only[ae]
   rw[show N.length+R.length-N.length=R.length by omega]
   rw[aC,ak] at b1
   rw[Be]
   exact b1
  ·refine ia.2 ⟨?_,b4,fun a ha b hb=>hs.eZ a (a2.mem_iff.1 ha) b (b2.mem_iff.1 hb)⟩
   have hall:∀s∈N',s.time=x.time:=fun s hm=>hN s (a2.mem_iff.1 hm)
   have key:∀l:List af,(∀s∈l,s.time=x.time)→l.Pairwise le:=fun l=>by
    induction l with
    | nil=>intro _;exact List.Pairwise.nil
    | cons a l ih=>
     intro h
     refine dQ.2 ⟨fun b hb=>?_,ih fun s hm=>h s (ao _ hm)⟩
     unfold So.le
     rw[h a au,h b (ao _ hb)]
     exact wk _
   exact key N' hall
end
end Go.DN.So
