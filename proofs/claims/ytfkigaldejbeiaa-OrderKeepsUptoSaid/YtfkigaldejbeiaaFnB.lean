/-
  Orders: without the document's answer: lists of eQ that are done one after the other; what order.vU does.
-/
import Derived.Test.YtfkigaldejbeiaaFnA
set_option linter.unusedSectionVars false
set_option linter.unusedSimpArgs false
set_option linter.unusedVariables false
namespace Go.DN.So
open Go.AM Go.DN
def mf (n:aP) (l:List ae) (m:List (List Int)):List (List Int):=l.foldl (fun m s=>iI n s.aQ m) m
theorem AA (n:aP) (a b:List ae) (m:List (List Int)):mf n (a++b) m=mf n b (mf n a m):=iu
theorem D5 {n:aP}:∀{l:List ae}{m:List (List Int)},(∀s∈l,qc n s.aQ)→Fits n m→Fits n (mf n l m)
 | [],m,_,hm=>hm
 | s::l,m,hg,hm=>D5 (l:=l) (fun x hx=>hg x (ao _ hx)) (rz (hg s av) hm)
theorem BS {n:aP}{x:ae}(gx:qc n x.aQ):∀{l:List ae}{m:List (List Int)},(∀s∈l,qc n s.aQ∧gN n x.aQ s.aQ=false)→Fits n m→iI n x.aQ (mf n l m)=mf n l (iI n x.aQ m)
 | [],m,_,_=>rfl
 | s::l,m,hg,hm=>by
  obtain⟨g1,g2⟩:=hg s av
  show iI n x.aQ (mf n l (iI n s.aQ m))=mf n l (iI n s.aQ (iI n x.aQ m))
  rw[BS gx (l:=l) (fun y hy=>hg y (ao _ hy)) (rz g1 hm),Nc gx g1 g2 hm]
theorem Q6 {n:aP}:∀{l P:List ae}{m:List (List Int)},P.Perm l→l.Pairwise (fun a b=>a.number<b.number)→P.Pairwise (fun x y=>y.number<x.number→gN n y.aQ x.aQ=false)→(∀s∈l,qc n s.aQ)→Fits n m→mf n P m=mf n l m
 | [],P,m,hp,_,_,_,_=>by rw[List.Perm.eq_nil hp]
 | x::l,P,m,hp,ho,hc,hg,hm=>by
  obtain⟨P1,P2,rfl⟩:=List.append_of_mem (hp.mem_iff.2 av)
  obtain⟨o1,o2⟩:=ej.1 ho
  obtain⟨c1,c2,c3⟩:=gZ.1 hc
  obtain⟨c4,c5⟩:=ej.1 c2
  have hp2:(P1++P2).Perm l:=(List.perm_middle.symm.trans hp).cons_inv
  have hP1:∀s∈P1,qc n s.aQ∧gN n x.aQ s.aQ=false:=fun s hs=>by
   have hl:s∈l:=hp2.mem_iff.1 (bS _ hs)
   exact⟨hg s (ao _ hl),c3 s hs x av (o1 s hl)⟩
  have gx:=hg x av
  have h1:mf n (P1++x::P2) m=mf n (P1++P2) (iI n x.aQ m):=by
   rw[AA,AA,←BS gx hP1 hm];rfl
  rw[h1,Q6 hp2 o2 (gZ.2 ⟨c1,c5,fun a ha b hb=>c3 a ha b (ao _ hb)⟩) (fun s hs=>hg s (ao _ hs)) (rz gx hm)]
  rfl
section
variable {n:aP}{times:List (List aS)}{mix:List Int}
theorem Eu (fu:Nat) (hf:2000<fu):
  ∀(c:Nat) (N J:List ae) (en:Nat) (mem:Rm n) (f:Nat),N.length=c→c<f→N.length+J.length≤2000→(∀s∈N,xA n times s.aQ)→en+c≤4000→
  ∃(turn':Nat) (N' J':List ae),turn'≤en+c∧N'.Perm N∧(mix=[]→N'=N)∧
   aB (F.k8 fu n mix) f ((en:Int),0,(c:Int),mem.1,N++J)=some ((turn':Int),mf n N' mem.1,J')
 | 0,N,J,en,mem,f,hc,hcf,hl,hN,ht=>by
  obtain⟨f,rfl⟩:∃g,f=g+1:=⟨f-1,by omega⟩
  obtain rfl:N=[]:=da.1 hc
  refine⟨en,[],J,by omega,List.Perm.refl _,fun _=>rfl,?_⟩
  simp only[aB,F.k8]
  rfl
 | c+1,N,J,en,mem,f,hc,hcf,hl,hN,ht=>by
  obtain⟨f,rfl⟩:∃g,f=g+1:=⟨f-1,by omega⟩
  obtain⟨k,turn',k1,k2,k3,_⟩:=qs mix en (c+1) (by omega) (by omega) (by omega)
  have hk0:mix=[]→k=0:=fun e=>by
   subst e
   have k3:some ((0:Int),(en:Int))=some ((k:Int),(turn':Int)):=k3
   simp only[fM,iU] at k3
   omega
  obtain⟨N1,y,N2,rfl,hn1⟩:∃N1 y N2,N=N1++y::N2∧N1.length=k:=by
   refine⟨N.take k,N[k]'(by omega),N.drop (k+1),?_,by rw[aU];omega⟩
   rw[←bV (by omega),List.take_append_drop]
  have hlen:(N1++y::N2).length=N1.length+1+N2.length:=by simp;omega
  have gy:=hN y (by simp)
  obtain⟨s,rows,g1,g2,g3,g4,g5,_⟩:=gy.ex
  have hD:=Ee fu g3 g4 g5 mem.2 (by omega)
  rw[HF (times:=times) g1 g3 mem.2] at hD
  obtain⟨J',j1,j2⟩:=Ra fu N1 N2 J y (by omega) (a:=(((Int.toNat 0:Nat)):Int)) (b:=(((Int.toNat ((c+1:Nat):Int):Nat)):Int)) (c:=(k:Int)) (d:=IntKind.wrap .i64 ((k:Int)+1)) rfl (by rw[bh];omega) (by omega) (by rw[i64 (by omega) (by omega)];omega)
  have hfit:=rz gy.r mem.2
  obtain⟨turn2,N',J2,a1,a2,a3,a4⟩:=Eu fu hf c (N1++N2) J' turn' ⟨iI n y.aQ mem.1,hfit⟩ f (by rw[aj];omega) (by omega) (by rw[aj];omega)
   (fun s hs=>hN s (by rcases cU.1 hs with h | h <;> simp[h])) (by omega)
  refine⟨turn2,y::N',J2,by omega,(List.Perm.cons y a2).trans List.perm_middle.symm,fun e=>?_,?_⟩
  ·have:=hk0 e
   obtain rfl:N1=[]:=da.1 (by omega)
   rw[a3 e];rfl
  ·have d:decide ((((Int.toNat ((c+1:Nat):Int)):Nat):Int)>0)=true:=PL.dl (by rw[bh];omega)
   have z:Int.toNat 0=0:=rfl
   have iy:((N1++y::N2)++J)[0+k]?=some y:=by rw[bQ,←hn1];simp
   have hb:Nat.beq (iI n y.aQ mem.1).length mem.1.length=true:=by rw[hfit.len,mem.2.len];exact aG _
   have hb2:Nat.beq (N1++(N2++J')).length (N1++(y::(N2++J))).length=true:=Bl (by simp only[aj,bN];omega)
   have c1:=bK (p:=(0:Int)≤(k:Int)∧(k:Int)<((c+1:Nat):Int)) (by omega)
   rw[bh,z] at j2
   simp only[aB,F.k8,d,cond_true]
   simp only[bh,z]
   rw[k3]
   simp only[ab,c1,bh,iy,QW gy.pos g1,hD,hb,cond_true]
   rw[show(N1++y::N2)++J=N1++(y::(N2++J)) by simp]
   simp only[j2,ab,hb2,cond_true,z,bh]
   rw[show((N1.length+N2.length:Nat):Int)=(c:Int) by omega]
   have a4:aB (F.k8 fu n mix) f ((turn':Int),0,(c:Int),iI n y.aQ mem.1,(N1++N2)++J')=some ((turn2:Int),mf n (y::N') mem.1,J2):=a4
   simpa using a4
def Sz (P:List ae):Prop:=P.Pairwise le
theorem D8 (fu:Nat) (hf:6000<fu){long:Nat}(h8:long≤8) (hlong:∀x∈times,x.length≤long):
  ∀(c:Nat) (M D:List ae) (en:Nat) (mem:Rm n) (f:Nat),M.length≤c→c<f→M.length≤1024→fY M→(∀s∈M,JS n times long s)→en+M.length≤3000→
  ∃(P w:List ae) (a b:Int),aB (F.pC fu n mix) f ((en:Int),D++M,mem.1,(D.length:Int),(M.length:Int))=some (w,mf n P mem.1,a,b)∧P.Perm M∧(mix=[]→P=M)∧Sz P
 | c,[],D,en,mem,f,hc,hcf,hl,hs,hj,ht=>by
  obtain⟨f,rfl⟩:∃g,f=g+1:=⟨f-1,by omega⟩
  exact⟨[],_,_,_,rfl,List.Perm.refl _,fun _=>rfl,List.Pairwise.nil⟩
 | 0,x::M,D,en,mem,f,hc,hcf,hl,hs,hj,ht=>by simp at hc
 | c+1,x::M,D,en,mem,f,hc,hcf,hl,hs,hj,ht=>by
  obtain⟨f,rfl⟩:∃g,f=g+1:=⟨f-1,by omega⟩
  obtain⟨N,R,e,hN,hR⟩:=BL x.time (x::M)
  have hx:(N++R)[0]?=some x:=by rw[←e];rfl
  have hNl:0<N.length:=by
   cases N with
   | cons=>simp
   | nil=>
    rcases hR with rfl | ⟨z,R',rfl,hz⟩
    ·simp at e
    ·simp at e;exact absurd (by rw[←e.1]) hz
  rw[e] at hl hs hj ht hc⊢
  rw[aj] at hl ht hc⊢
  have tm:Tm (N++R):=fun s h=>by
   have:=(RQ h8 hlong (hj s h).2).2
   rw[←(hj s h).1] at this
   omega
  have hidx:=NL fu (by omega) (D:=D) hx hN hNl hR tm (by omega)
  have hcl:=MG fu (D:=D) (R:=R) hNl (by omega)
  obtain⟨turn',N',J',a1,a2,a3,a4⟩:=Eu (mix:=mix) (times:=times) fu (by omega) N.length N [] en mem fu rfl (by omega) (by simp;omega) (fun s h=>(hj s (bS _ h)).2) (by omega)
  have hgN:∀s∈N',qc n s.aQ:=fun s hm=>(hj s (bS _ (a2.mem_iff.1 hm))).2.r
  have d:decide (((N.length+R.length:Nat):Int)>0)=true:=PL.dl (by omega)
  have hb:Nat.beq (D++(N++R)).length (D++(N++R)).length=true:=aG _
  obtain⟨P,w,p,q,b1,b2,b3,b4⟩:=D8 fu hf h8 hlong c R (D++N) turn' ⟨mf n N' mem.1,D5 hgN mem.2⟩ f (by omega) (by omega) (by omega) hs.right (fun s h=>hj s (cC _ h)) (by omega)
  refine⟨N'++P,w,p,q,?_,a2.append b2,fun e=>by rw[a3 e,b3 e],?_⟩
  ·have hk:(cond (decide ((if R=[] then(-1:Int) else(N.length:Int))<0)) (some ((N.length+R.length:Nat):Int)) (some (if R=[] then(-1:Int) else(N.length:Int))):Option Int)=some (N.length:Int):=by
    by_cases h:R=[]
    ·subst h;simp
    ·simp only[h,if_false,PL.cw (show ¬(N.length:Int)<0 by omega),cond_false]
   have c1:=bK (p:=(0:Int)≤(N.length:Int)∧(N.length:Int)≤((N.length+R.length:Nat):Int)) (by omega)
   rw[b9] at a4
   simp only[aB,F.pC,bh,d,cond_true,hidx,ab,hb,hk,c1,hcl]
   have a4:aB (F.k8 fu n mix) fu ((en:Int),((0:Nat):Int),(N.length:Int),mem.1,N)=_:=a4
   rw[a4]
   simp only[ab]
   rw[show N.length+R.length-N.length=R.length by omega]
   rw[aC,aj] at b1
   rw[AA]
   exact b1
  ·refine gZ.2 ⟨?_,b4,fun a ha b hb=>hs.eW a (a2.mem_iff.1 ha) b (b2.mem_iff.1 hb)⟩
   have hall:∀s∈N',s.time=x.time:=fun s hm=>hN s (a2.mem_iff.1 hm)
   have key:∀l:List ae,(∀s∈l,s.time=x.time)→l.Pairwise le:=fun l=>by
    induction l with
    | nil=>intro _;exact List.Pairwise.nil
    | cons a l ih=>
     intro h
     refine ej.2 ⟨fun b hb=>?_,ih fun s hm=>h s (ao _ hm)⟩
     unfold So.le
     rw[h a av,h b (ao _ hb)]
     exact zw _
   exact key N' hall
end
end Go.DN.So
