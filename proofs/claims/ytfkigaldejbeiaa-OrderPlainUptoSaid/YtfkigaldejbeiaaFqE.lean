/-
  Orders: the plain law of OrderRuns: merging in place, and the stable sort.
-/
import Derived.Test.YtfkigaldejbeiaaFqD
set_option linter.unusedSimpArgs false
set_option linter.unusedVariables false
namespace Go.DN.So
open Go.AM
theorem Sd.refl {A:List af}(h:gg A):Sd A A:=⟨h,rfl,FE.refl A⟩
theorem Sd.tm {C A:List af}(h:Sd C A) (t:Tm A):Tm C:=t.fe h.2.2
theorem IW {B A:List af}(hb:gg B) (ha:gg A) (h:∀x y,B.getLast? =some x→A.head? =some y→lt x y):∀x∈B,∀y∈A,lt x y:=by
 intro x hx y hy
 cases A with
 | nil=>cases hy
 | cons y0 A=>
  rcases List.eq_nil_or_concat B with e | ⟨B',z,e⟩
  ·subst e;cases hx
  ·subst e
   have hz:lt z y0:=h z y0 (by simp) rfl
   have h1:lt x y0:=by
    rw[List.concat_eq_append] at hx hb
    rcases cP.1 hx with h2 | h2
    ·exact Ja (hb.eZ x h2 z (by simp)) hz
    ·rw[cu.1 h2];exact hz
   rcases aZ.1 hy with e | hy
   ·rw[e];exact h1
   ·exact I9 h1 ((dQ.1 ha).1 y hy)
theorem IX {B A:List af}(hb:gg B) (ha:gg A) (h:∀x y,B.getLast? =some x→A.head? =some y→le x y):∀x∈B,∀y∈A,le x y:=by
 intro x hx y hy
 cases A with
 | nil=>cases hy
 | cons y0 A=>
  rcases List.eq_nil_or_concat B with e | ⟨B',z,e⟩
  ·subst e;cases hx
  ·subst e
   have hz:le z y0:=h z y0 (by simp) rfl
   have h1:le x y0:=by
    rw[List.concat_eq_append] at hx hb
    rcases cP.1 hx with h2 | h2
    ·exact(hb.eZ x h2 z (by simp)).trans hz
    ·rw[cu.1 h2];exact hz
   rcases aZ.1 hy with e | hy
   ·rw[e];exact h1
   ·exact h1.trans ((dQ.1 ha).1 y hy)
theorem tJ {α:Type}(l:List α) (k:Nat) (h:k≤l.length):∃a b,l=a++b∧a.length=k:=⟨l.take k,l.drop k,by simp,by simp;omega⟩
theorem Ai {P A Q:List af}{x:af}(h:A.getLast? =some x){k:Nat}(hk:k+1=P.length+A.length):(P++(A++Q))[k]?=some x:=by
 rcases List.eq_nil_or_concat A with e | ⟨A',z,e⟩
 ·subst e;cases h
 ·subst e
  simp at h hk
  subst h
  rw[show P++((A'.concat z)++Q)=(P++A')++z::Q by simp,show k=(P++A').length by simp;omega]
  exact OT _ _ _
theorem Al {P A Q:List af}{x:af}(h:A.head? =some x){k:Nat}(hk:k=P.length):(P++(A++Q))[k]?=some x:=by
 cases A with
 | nil=>cases h
 | cons z A=>
  simp at h
  subst h hk
  simp
theorem Ac {A:List af}{x:af}(h:A.getLast? =some x):0<A.length:=by cases A with | nil=>cases h | cons=>simp
theorem Ad {A:List af}{x:af}(h:A.head? =some x):0<A.length:=by cases A with | nil=>cases h | cons=>simp
theorem Hl {R:Type}{p q r:Int}{f:Option (List af)}{l l':List af}{K:List af→Option R}(hl:l'.length=l.length) (h1:p<q→q<r→f=some l') (h2:¬(p<q∧q<r)→l'=l):
  ((cond (decide (p<q)) (some (decide (q<r))) (some false)).bind fun (v:Bool)=>(cond v (f.bind fun (r:List af)=>bif Nat.beq r.length l.length then some r else none) (some l)).bind K)=K l':=by
 by_cases g1:p<q
 ·rw[PL.du g1,cond_true,ae]
  by_cases g2:q<r
  ·rw[PL.du g2,cond_true,h1 g1 g2,ae]
   have:Nat.beq l'.length l.length=true:=by rw[Nat.beq_eq];exact hl
   rw[this];rfl
  ·rw[PL.cA g2,h2 (fun h=>g2 h.2)];rfl
 ·rw[PL.cA g1,h2 (fun h=>g1 h.1)];rfl
theorem P8 {f:Option (List af)}{pre A B post:List af}(sA:gg A) (sB:gg B) (h:0<A.length→0<B.length→∃C,Sd C (A++B)∧f=some (pre++(C++post))):
  ∃C,Sd C (A++B)∧(0<A.length→0<B.length→f=some (pre++(C++post)))∧(¬(0<A.length∧0<B.length)→C=A++B):=by
 by_cases hA:0<A.length
 ·by_cases hB:0<B.length
  ·obtain⟨C,h1,h2⟩:=h hA hB
   exact⟨C,h1,fun _ _=>h2,fun g=>absurd ⟨hA,hB⟩ g⟩
  ·obtain rfl:B=[]:=dg.1 (by omega)
   exact⟨A++[],.refl (by simpa using sA),fun _ g=>absurd g hB,fun _=>rfl⟩
 ·obtain rfl:A=[]:=dg.1 (by omega)
  exact⟨[]++B,.refl sB,fun g=>absurd g hA,fun _=>rfl⟩
def Kq (N:Nat) (self:Int→Int→Int→List af→Option (List af)):Prop:=∀(A B pre post:List af) (a m b:Int),A.length+B.length≤N→0<A.length→0<B.length→(pre++(A++(B++post))).length≤2000→Tm (pre++(A++(B++post)))→gg A→gg B→
  a=(pre.length:Int)→m=((pre.length+A.length:Nat):Int)→b=((pre.length+A.length+B.length:Nat):Int)→
  ∃C,Sd C (A++B)∧self a m b (pre++(A++(B++post)))=some (pre++(C++post))
theorem Jn {N:Nat}{self:Int→Int→Int→List af→Option (List af)}(IH:Kq N self){pre A B post l:List af}{a m b:Int}(hN:A.length+B.length≤N) (hl:l.length≤2000) (ht:Tm l) (sA:gg A) (sB:gg B)
  (e:l=pre++(A++(B++post))) (ea:a=(pre.length:Int)) (em:m=((pre.length+A.length:Nat):Int)) (eb:b=((pre.length+A.length+B.length:Nat):Int)):
  ∃C,Sd C (A++B)∧∀{R:Type}(K:List af→Option R),(((cond (decide (a<m)) (some (decide (m<b))) (some false)).bind fun (v:Bool)=>(cond v ((self a m b l).bind fun (r:List af)=>bif Nat.beq r.length l.length then some r else none) (some l)).bind K))=K (pre++(C++post)):=by
 subst e
 obtain⟨C,c1,c2,c3⟩:=P8 (f:=self a m b (pre++(A++(B++post)))) (pre:=pre) (post:=post) sA sB fun g1 g2=>IH A B pre post a m b hN g1 g2 hl ht sA sB ea em eb
 refine⟨C,c1,fun K=>Hl ?_ (fun g1 g2=>c2 (by omega) (by omega)) fun g=>?_⟩
 ·have:=c1.2.1
  simp only[ak] at this⊢;omega
 ·rw[c3 (by omega)];simp
theorem P0 (self:Int→Int→Int→List af→Option (List af)) (fu:Nat){N:Nat}(hN:2000<fu) (IH:Kq N self){pre A1 A2 B1 B2 post:List af}{a b m s eZ e:Int}
  (h0:A1.length+B1.length≤N) (h1:A2.length+B2.length≤N) (ht:Tm (pre++(A1++A2++(B1++B2++post)))) (sA:gg (A1++A2)) (sB:gg (B1++B2)) (ka:∀x∈A1,∀y∈B2,le x y) (kb:∀x∈B1,∀y∈A2,lt x y)
  (ea:a=(pre.length:Int)) (es:s=((pre.length+A1.length:Nat):Int)) (em:m=((pre.length+A1.length+A2.length:Nat):Int)) (ee:e=((pre.length+A1.length+A2.length+B1.length:Nat):Int)) (emid:eZ=((pre.length+A1.length+B1.length:Nat):Int)) (eb:b=((pre.length+A1.length+A2.length+B1.length+B2.length:Nat):Int))
  (hl:pre.length+A1.length+A2.length+B1.length+B2.length+post.length≤2000):
  ∃C,Sd C (A1++A2++(B1++B2))∧(((cond (decide (s<m)) (some (decide (m<e))) (some false)).bind fun (v:Bool)=>
    (cond v ((F.gk fu s m e (pre++(A1++A2++(B1++B2++post)))).bind fun (r:List af)=>bif Nat.beq (List.length r) (List.length (pre++(A1++A2++(B1++B2++post)))) then some r else none) (some (pre++(A1++A2++(B1++B2++post))))).bind fun (m49:List af)=>
    (cond (decide (a<s)) (some (decide (s<eZ))) (some false)).bind fun (v50:Bool)=>
    (cond v50 ((self a s eZ m49).bind fun (r51:List af)=>bif Nat.beq (List.length r51) (List.length m49) then some r51 else none) (some m49)).bind fun (m52:List af)=>
    (cond (decide (eZ<e)) (some (decide (e<b))) (some false)).bind fun (v53:Bool)=>
    (cond v53 ((self eZ e b m52).bind fun (r55:List af)=>bif Nat.beq (List.length r55) (List.length m52) then some r55 else none) (some m52)).bind fun (m56:List af)=>
    some m56))=some (pre++(C++post)):=by
 have tA1:Tm A1:=ht.right.left.left
 have tA2:Tm A2:=ht.right.left.right
 have tB1:Tm B1:=ht.right.right.left.left
 have tB2:Tm B2:=ht.right.right.left.right
 have tp:Tm post:=ht.right.right.right
 have tq:Tm pre:=ht.left
 have hs:∀(K:List af→Option (List af)),((cond (decide (s<m)) (some (decide (m<e))) (some false)).bind fun (v:Bool)=>
    (cond v ((F.gk fu s m e (pre++(A1++A2++(B1++B2++post)))).bind fun (r:List af)=>bif Nat.beq (List.length r) (List.length (pre++(A1++A2++(B1++B2++post)))) then some r else none) (some (pre++(A1++A2++(B1++B2++post))))).bind K)=K (pre++(A1++(B1++(A2++(B2++post))))):=fun K=>by
  refine Hl ?_ (fun g1 g2=>?_) fun g=>?_
  ·simp only[ak];omega
  ·have:=Rn fu (X:=A2) (Y:=B1) (pre:=pre++A1) (post:=B2++post) (a:=s) (m:=m) (b:=e) (by omega) (by omega) (by simp only[ak];omega) (by simp only[ak];omega) (by simp only[ak];omega) (by simp only[ak];omega) (by omega)
   simpa only[aC] using this
  ·by_cases g1:0<A2.length
   ·obtain rfl:B1=[]:=dg.1 (by omega)
    simp
   ·obtain rfl:A2=[]:=dg.1 (by omega)
    simp
 rw[hs]
 obtain⟨C1,c1,c2⟩:=Jn IH (pre:=pre) (A:=A1) (B:=B1) (post:=A2++(B2++post)) (a:=a) (m:=s) (b:=eZ) h0 (by simp only[ak];omega) (tq.gz (tA1.gz (tB1.gz (tA2.gz (tB2.gz tp))))) sA.left sB.left rfl ea es emid
 rw[c2]
 have l1:=c1.2.1
 rw[ak] at l1
 obtain⟨C2,d1,d2⟩:=Jn IH (pre:=pre++C1) (A:=A2) (B:=B2) (post:=post) (l:=pre++(C1++(A2++(B2++post)))) (a:=eZ) (m:=e) (b:=b) h1 (by simp only[ak];omega) (tq.gz ((c1.tm (tA1.gz tB1)).gz (tA2.gz (tB2.gz tp)))) sA.right sB.right (by simp only[aC])
  (by simp only[ak];omega) (by simp only[ak];omega) (by simp only[ak];omega)
 rw[d2]
 have l2:=d1.2.1
 rw[ak] at l2
 refine⟨C1++C2,⟨c1.1.gz d1.1 fun x hx y hy=>?_,by simp only[ak];omega,?_⟩,by simp only[aC]⟩
 ·have hx:=c1.2.2.mem hx
  have hy:=d1.2.2.mem hy
  rcases cP.1 hx with h | h <;> rcases cP.1 hy with h' | h'
  ·exact sA.eZ x h y h'
  ·exact ka x h y h'
  ·exact(kb x h y h').le
  ·exact sB.eZ x h y h'
 ·refine(c1.2.2.gz d1.2.2).trans ?_
  have:=(FE.refl A1).gz ((FE.comm (a:=B1) (b:=A2) fun x hx y hy=>(kb x hx y hy).ne).gz (FE.refl B2))
  simpa only[aC] using this
set_option maxHeartbeats 1000000
theorem Gz:∀(fu:Nat) (A B pre post:List af) (a m b:Int),A.length+B.length+3000<fu→0<A.length→0<B.length→(pre++(A++(B++post))).length≤2000→Tm (pre++(A++(B++post)))→gg A→gg B→
  a=(pre.length:Int)→m=((pre.length+A.length:Nat):Int)→b=((pre.length+A.length+B.length:Nat):Int)→
  ∃C,Sd C (A++B)∧F.cD fu a m b (pre++(A++(B++post)))=some (pre++(C++post))
 | 0,A,B,pre,post,a,m,b,hf,hA,hB,hl,ht,sA,sB,ea,em,eb=>by omega
 | fu+1,A,B,pre,post,a,m,b,hf,hA,hB,hl,ht,sA,sB,ea,em,eb=>by
  have hlen:(pre++(A++(B++post))).length=pre.length+A.length+B.length+post.length:=by simp;omega
  rw[hlen] at hl
  have tAB:Tm (A++B):=by rw[←aC A B post] at ht;exact ht.right.left
  simp only[F.cD,F.mV]
  by_cases h1:A.length=1
  ·
   obtain⟨x,rfl⟩:=List.length_eq_one_iff.1 h1
   rw[show(IntKind.wrap .i64 (m-a)==1)=true by rw[ea,em,i64 (by omega) (by omega)];simp;omega]
   simp only[cond_true,cS] at *
   obtain⟨s,s1,s2,s3,s4,s5⟩:=Sq (F.cD fu) (fu+1) (by omega) ht (by omega) (a:=pre.length) (i0:=pre.length+1) (j0:=pre.length+1+B.length) (by omega) (by omega) (by omega) (fu+1) (by omega)
   obtain⟨B1,B2,rfl,hB1⟩:=tJ B (s-(pre.length+1)) (by omega)
   simp only[ak] at *
   have hx:(pre++([x]++(B1++B2++post)))[pre.length]?=some x:=OT pre _ x
   have k1:∀y∈B1,lt y x:=fun y hy=>IW (A:=[x]) sB.left (gg.one x) (fun u v hu hv=>by
    have hv:v=x:=by simpa using hv.symm
    subst hv
    have hp:=Ac hu
    rcases s4 with h | h
    ·omega
    ·have:=Ai (P:=pre++[v]) (Q:=B2++post) hu (k:=s-1) (by simp;omega)
     rw[qT (x:=u) (by simpa using this) hx] at h
     exact h) y hy x (by simp)
   have k2:∀y∈B2,le x y:=IX (B:=[x]) (gg.one x) sB.right (fun u v hu hv=>by
    have hu:u=x:=by simpa using hu.symm
    subst hu
    have hp:=Ad hv
    rcases s5 with h | h
    ·omega
    ·have:=Al (P:=pre++[u]++B1) (Q:=post) hv (k:=s) (by simp;omega)
     rw[qT (y:=u) (by simpa using this) hx] at h
     exact h) x (by simp)
   refine⟨B1++x::B2,⟨sB.left.gz (dQ.2 ⟨k2,sB.right⟩) fun y hy z hz=>?_,by simp;omega,?_⟩,?_⟩
   ·rcases aZ.1 hz with h | h
    ·rw[h];exact(k1 y hy).le
    ·exact sB.eZ y hy z h
   ·have:=(FE.comm (a:=B1) (b:=[x]) fun y hy z hz=>by rw[cu.1 hz];exact(k1 y hy).ne).gz (FE.refl B2)
    simpa using this
   ·rw[ea,em,eb,s3]
    simp only[ae]
    have:=Nf (F.cD fu) (fu+1) x (B2++post) s (by omega) B1 pre (fu+1) (by omega) (by omega)
    simp only[aC,bx,dj] at this⊢
    rw[this];rfl
  ·rw[show(IntKind.wrap .i64 (m-a)==1)=false by rw[ea,em,i64 (by omega) (by omega)];simp;omega]
   simp only[cond_false]
   by_cases h2:B.length=1
   ·
    obtain⟨y,rfl⟩:=List.length_eq_one_iff.1 h2
    rw[show(IntKind.wrap .i64 (b-m)==1)=true by rw[eb,em,i64 (by omega) (by omega)];simp;omega]
    simp only[cond_true,cS] at *
    obtain⟨s,s1,s2,s3,s4,s5⟩:=Sp (F.cD fu) (fu+1) (by omega) ht (by omega) (m:=pre.length+A.length) (i0:=pre.length) (j0:=pre.length+A.length) (by omega) (by omega) (by omega) (fu+1) (by omega)
    obtain⟨A1,A2,rfl,hA1⟩:=tJ A (s-pre.length) (by omega)
    simp only[ak] at *
    have hy:(pre++(A1++A2++([y]++post)))[pre.length+(A1.length+A2.length)]?=some y:=by
     simp
    have k1:∀x∈A1,le x y:=fun x hx=>IX (A:=[y]) sA.left (gg.one y) (fun u v hu hv=>by
     have hv:v=y:=by simpa using hv.symm
     subst hv
     have hp:=Ac hu
     rcases s4 with h | h
     ·omega
     ·have:=Ai (P:=pre) (Q:=A2++([v]++post)) hu (k:=s-1) (by omega)
      rw[qT (y:=u) hy (by simpa using this)] at h
      exact h) x hx y (by simp)
    have k2:∀x∈A2,lt y x:=IW (B:=[y]) (gg.one y) sA.right (fun u v hu hv=>by
     have hu:u=y:=by simpa using hu.symm
     subst hu
     have hp:=Ad hv
     rcases s5 with h | h
     ·omega
     ·have:=Al (P:=pre++A1) (Q:=[u]++post) hv (k:=s) (by simp;omega)
      rw[qT (y:=v) hy (by simpa using this)] at h
      exact h) y (by simp)
    refine⟨A1++y::A2,⟨sA.left.gz (dQ.2 ⟨fun z hz=>(k2 z hz).le,sA.right⟩) fun x hx z hz=>?_,by simp,?_⟩,?_⟩
    ·rcases aZ.1 hz with h | h
     ·rw[h];exact k1 x hx
     ·exact sA.eZ x hx z h
    ·have:=(FE.refl A1).gz (FE.comm (a:=[y]) (b:=A2) fun u hu z hz=>by rw[cu.1 hu];exact(k2 z hz).ne)
     simpa using this
    ·rw[ea,em,s3]
     simp only[ae]
     have:=NF (F.cD fu) (fu+1) y (pre++A1) (by simp;omega) A2.reverse post (fu+1) (by simp;omega) (by simp;omega)
     rw[show(pre++A1).length=s by simp;omega,show s+A2.reverse.length=pre.length+(A1.length+A2.length) by simp;omega] at this
     simp only[aC,bx,dj,List.reverse_reverse] at this⊢
     rw[this];rfl
   ·
    rw[show(IntKind.wrap .i64 (b-m)==1)=false by rw[eb,em,i64 (by omega) (by omega)];simp;omega]
    have hh:=half (a:=a) (b:=b) pre.length (pre.length+A.length+B.length) ea eb (by omega)
    simp only[cond_false,bJ (show(0:Int)≤1 by decide),ae,hh]
    generalize hmid:(pre.length+(pre.length+A.length+B.length))/2=eZ
    have hst:∃i0 j0:Nat,(cond (decide (m>(eZ:Int))) (some (IntKind.wrap .i64 ((IntKind.wrap .i64 ((eZ:Int)+m))-b),(eZ:Int))) (some (a,m)):Option (Int×Int))=some ((i0:Int),(j0:Int))∧pre.length≤i0∧i0≤j0∧j0≤pre.length+A.length∧
      j0≤eZ∧eZ≤i0+B.length∧(i0=pre.length∨i0+B.length=eZ)∧(j0=pre.length+A.length∨j0=eZ):=by
     by_cases hm:pre.length+A.length>eZ
     ·refine⟨eZ-B.length,eZ,?_,by omega,by omega,by omega,by omega,by omega,by omega,by omega⟩
      rw[PL.du (by omega),em,eb,i64 (n:=(eZ:Int)+_) (by omega) (by omega),i64 (by omega) (by omega),cond_true]
      congr 2;omega
     ·refine⟨pre.length,pre.length+A.length,?_,by omega,by omega,by omega,by omega,by omega,by omega,by omega⟩
      rw[PL.cA (by omega),ea,em,cond_false]
    obtain⟨i0,j0,e0,q1,q2,q3,q4,q5,q6,q7⟩:=hst
    rw[e0]
    simp only[ae]
    obtain⟨s,s1,s2,s3,s4,s5⟩:=Sn (F.cD fu) (fu+1) (by omega) ht (by omega) (a:=pre.length) (m:=pre.length+A.length) (b:=pre.length+A.length+B.length) (i0:=i0) (j0:=j0) (by omega) (by omega) (by omega) q2 (by omega) (by omega) (by omega) (fu+1) (by omega)
    rw[hmid] at s4 s5
    rw[←ea,←em,←eb] at s3
    rw[s3]
    have hend:IntKind.wrap .i64 ((IntKind.wrap .i64 ((eZ:Int)+m))-(s:Int))=((eZ+(pre.length+A.length)-s:Nat):Int):=by
     rw[em,i64 (n:=(eZ:Int)+_) (by omega) (by omega),i64 (by omega) (by omega)];omega
    simp only[ae,hend]
    obtain⟨A1,A2,rfl,hA1⟩:=tJ A (s-pre.length) (by omega)
    obtain⟨B1,B2,rfl,hB1⟩:=tJ B (eZ-s) (by omega)
    simp only[ak] at hlen hl hmid hA hB h1 h2 q3 q7 q5 q6 s4 s5 hend em eb hf
    have eend:eZ+(pre.length+(A1++A2).length)-s=pre.length+A1.length+A2.length+B1.length:=by rw[ak];omega
    rw[eend]
    have kb:∀x∈B1,∀y∈A2,lt x y:=IW sB.left sA.right fun u v hu hv=>by
     have p1:=Ac hu
     have p2:=Ad hv
     rcases s5 with h | h
     ·omega
     ·have g1:=Ai (P:=pre++(A1++A2)) (Q:=B2++post) hu (k:=eZ+(pre.length+(A1.length+A2.length))-1-s) (by simp;omega)
      have g2:=Al (P:=pre++A1) (Q:=B1++(B2++post)) hv (k:=s) (by simp;omega)
      rw[qT (x:=u) (y:=v) (by simpa using g1) (by simpa using g2)] at h
      exact h
    have ka:∀x∈A1,∀y∈B2,le x y:=IX sA.left sB.right fun u v hu hv=>by
     have p1:=Ac hu
     have p2:=Ad hv
     rcases s4 with h | h
     ·omega
     ·have g1:=Ai (P:=pre) (Q:=A2++(B1++(B2++post))) hu (k:=s-1) (by omega)
      have g2:=Al (P:=pre++(A1++(A2++B1))) (Q:=post) hv (k:=eZ+(pre.length+(A1.length+A2.length))-s) (by simp;omega)
      rw[qT (x:=v) (y:=u) (by simpa using g2) (by simpa using g1)] at h
      exact h
    have:=P0 (F.cD fu) (fu+1) (N:=A1.length+A2.length+(B1.length+B2.length)-1) (by omega) (fun A B pre post a m b g1 g2 g3=>Gz fu A B pre post a m b (by omega) g2 g3) (pre:=pre) (A1:=A1) (A2:=A2) (B1:=B1) (B2:=B2) (post:=post) (a:=a) (b:=b) (m:=m) (s:=(s:Int)) (eZ:=(eZ:Int)) (e:=((pre.length+A1.length+A2.length+B1.length:Nat):Int))
     (by omega) (by omega) ht sA sB ka kb ea (by omega) (by omega) (by omega) (by omega) (by omega) (by omega)
    exact this
end Go.DN.So
