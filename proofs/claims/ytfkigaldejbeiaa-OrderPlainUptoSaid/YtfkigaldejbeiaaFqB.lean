/-
  Orders: the plain law of OrderRuns: exchanges, shifts, rotations of parts of a list.
-/
import Derived.Test.YtfkigaldejbeiaaFqA
set_option linter.unusedSimpArgs false
set_option linter.unusedVariables false
namespace Go.DN.So
open Go.AM
theorem SY (P Q:List af) (x y:af):(P++x::Q).set P.length y=P++y::Q:=by simp
theorem OT (P Q:List af) (x:af):(P++x::Q)[P.length]?=some x:=by simp
theorem zk {P Q:List af}{x:af}{p:Int}(hp:p=(P.length:Int)):idx (P++x::Q) p=some x:=by rw[hp];exact bM (OT P Q x)
theorem GQ {P Q:List af}{x y:af}{p:Int}(hp:p=(P.length:Int)):(P++x::Q).set p.toNat y=P++y::Q:=by rw[hp,bc];exact SY P Q x y
theorem Pz {P M Q:List af}{x y:af}{p q:Int}(hp:p=(P.length:Int)) (hq:q=((P.length+1+M.length:Nat):Int)):
  ((idx (P++x::(M++y::Q)) q).bind fun x7=>(idx (P++x::(M++y::Q)) p).bind fun x8=>vK ((idx (P++x::(M++y::Q)) p).bind fun _=>
   (idx ((P++x::(M++y::Q)).set p.toNat x7) q).bind fun _=>some (((P++x::(M++y::Q)).set p.toNat x7).set q.toNat x8)))=some (P++y::(M++x::Q)):=by
 have e:∀(z w:af),P++z::(M++w::Q)=(P++z::M)++w::Q:=fun z w=>by simp
 have l:∀z:af,q=((P++z::M).length:Int):=fun z=>by rw[hq];congr 1;simp;omega
 simp only[zk hp,GQ hp]
 rw[e x y,zk (l x)]
 simp only[ae,sn,GQ hp]
 rw[e y y,zk (l y),GQ (l y)]
 simp
theorem Py {P M Q:List af}{x y:af}{p q:Int}(hp:p=(P.length:Int)) (hq:q=((P.length+1+M.length:Nat):Int)):
  ((idx (P++x::(M++y::Q)) p).bind fun x7=>(idx (P++x::(M++y::Q)) q).bind fun x8=>vK ((idx (P++x::(M++y::Q)) q).bind fun _=>
   (idx ((P++x::(M++y::Q)).set q.toNat x7) p).bind fun _=>some (((P++x::(M++y::Q)).set q.toNat x7).set p.toNat x8)))=some (P++y::(M++x::Q)):=by
 have e:∀(z w:af),P++z::(M++w::Q)=(P++z::M)++w::Q:=fun z w=>by simp
 have l:∀z:af,q=((P++z::M).length:Int):=fun z=>by rw[hq];congr 1;simp;omega
 simp only[zk hp]
 rw[e x y,zk (l x)]
 simp only[ae,sn,GQ (l x)]
 rw[←e x x,zk hp,GQ hp]
 simp
theorem Nf (self:Int→Int→Int→List af→Option (List af)) (fu:Nat) (x:af) (post:List af) (i:Nat) (hi:i≤5000):∀(B pre:List af) (n:Nat),pre.length+B.length+1=i→B.length<n→
  aB (F.il self fu (i:Int)) n ((pre.length:Int),pre++x::(B++post))=some (pre++(B++x::post))
 | [],pre,n,h,hn=>by
  obtain⟨n,rfl⟩:∃f,n=f+1:=⟨n-1,by omega⟩
  simp only[cX] at h
  simp only[aB,F.il]
  rw[PL.cA (by rw[i64 (by omega) (by omega)];omega)]
  rfl
 | y::B,pre,n,h,hn=>by
  obtain⟨n,rfl⟩:∃f,n=f+1:=⟨n-1,by omega⟩
  simp only[bA] at h hn
  have hs:=Pz (P:=pre) (M:=[]) (Q:=B++post) (x:=x) (y:=y) (p:=(pre.length:Int)) (q:=IntKind.wrap .i64 ((pre.length:Int)+1)) rfl (by rw[i64 (by omega) (by omega)];simp)
  simp only[aB,F.il]
  rw[PL.du (by rw[i64 (by omega) (by omega)];omega)]
  simp only[dj] at hs
  simp only[cond_true,bx]
  rw[hs]
  simp only[ae]
  have ih:=Nf self fu x post i hi B (pre++[y]) n (by simp;omega) (by omega)
  rw[i64 (by omega) (by omega)]
  simpa using ih
theorem NF (self:Int→Int→Int→List af→Option (List af)) (fu:Nat) (x:af) (pre:List af) (hi:pre.length≤5000):∀(R post:List af) (n:Nat),R.length≤5000→R.length<n→
  aB (F.ik self fu (pre.length:Int)) n (((pre.length+R.length:Nat):Int),pre++(R.reverse++x::post))=some (pre++x::(R.reverse++post))
 | [],post,n,h,hn=>by
  obtain⟨n,rfl⟩:∃f,n=f+1:=⟨n-1,by omega⟩
  simp only[aB,F.ik,cX,dq]
  rw[PL.cA (by omega)]
  rfl
 | y::R,post,n,h,hn=>by
  obtain⟨n,rfl⟩:∃f,n=f+1:=⟨n-1,by omega⟩
  simp only[bA] at h hn
  have hs:=Py (P:=pre++R.reverse) (M:=[]) (Q:=post) (x:=y) (y:=x) (p:=IntKind.wrap .i64 ((((pre.length+(y::R).length:Nat):Int))-1)) (q:=((pre.length+(y::R).length:Nat):Int))
   (by rw[bA,i64 (by omega) (by omega)];simp;omega) (by simp;omega)
  simp only[aB,F.ik]
  rw[PL.du (by rw[bA];omega)]
  simp only[cond_true,List.reverse_cons,aC,bx,dj] at hs⊢
  rw[hs]
  simp only[ae]
  have ih:=NF self fu x pre hi R (y::post) n (by omega) (by omega)
  rw[show IntKind.wrap .i64 ((((pre.length+(y::R).length:Nat):Int))-1)=((pre.length+R.length:Nat):Int) by rw[bA,i64 (by omega) (by omega)];omega]
  exact ih
theorem GB (fu:Nat) (a b m:Int) (post:List af):∀(X Y pre eZ:List af) (q n:Nat),X.length=Y.length→pre.length+X.length+eZ.length+Y.length≤5000→q+X.length≤5000→
  a=(pre.length:Int)-q→b=((pre.length+X.length+eZ.length:Nat):Int)-q→m=((q+X.length:Nat):Int)→X.length<n→
  aB (F.gT fu a b m) n ((q:Int),pre++(X++(eZ++(Y++post))))=some (pre++(Y++(eZ++(X++post))))
 | [],Y,pre,eZ,q,n,h,h1,h2,ha,hb,hm,hn=>by
  obtain⟨n,rfl⟩:∃f,n=f+1:=⟨n-1,by omega⟩
  obtain rfl:Y=[]:=dg.1 h.symm
  simp only[cX,dq] at hm
  simp only[aB,F.gT]
  rw[PL.cA (by omega)]
  rfl
 | x::X,[],pre,eZ,q,n,h,h1,h2,ha,hb,hm,hn=>by simp at h
 | x::X,y::Y,pre,eZ,q,n,h,h1,h2,ha,hb,hm,hn=>by
  obtain⟨n,rfl⟩:∃f,n=f+1:=⟨n-1,by omega⟩
  simp only[bA] at h h1 h2 hb hm hn
  have hs:=Pz (P:=pre) (M:=X++eZ) (Q:=Y++post) (x:=x) (y:=y) (p:=IntKind.wrap .i64 (a+(q:Int))) (q:=IntKind.wrap .i64 (b+(q:Int)))
   (by rw[i64 (by omega) (by omega)];omega) (by rw[i64 (by omega) (by omega),ak];omega)
  simp only[aB,F.gT]
  rw[PL.du (by omega)]
  simp only[cond_true,bx,aC] at hs⊢
  rw[hs]
  simp only[ae]
  have ih:=GB fu a b m post X Y (pre++[y]) (eZ++[x]) (q+1) n (by omega) (by simp;omega) (by omega) (by simp;omega) (by simp;omega) (by omega) (by omega)
  rw[i64 (by omega) (by omega)]
  simpa using ih
theorem GA (fu:Nat){X Y pre eZ post:List af}{a b m:Int}(h:X.length=Y.length) (h1:pre.length+X.length+eZ.length+Y.length≤5000)
  (ha:a=(pre.length:Int)) (hb:b=((pre.length+X.length+eZ.length:Nat):Int)) (hm:m=(X.length:Int)) (hf:X.length<fu):
  F.ft fu a b m (pre++(X++(eZ++(Y++post))))=some (pre++(Y++(eZ++(X++post)))):=by
 have:=GB fu a b m post X Y pre eZ 0 fu h h1 (by omega) (by simpa using ha) (by simpa using hb) (by simpa using hm) hf
 unfold F.ft
 rw[show((0:Nat):Int)=0 from rfl] at this
 rw[this];rfl
theorem Bf (fu:Nat) (m:Nat) (hm:m≤5000):∀(k:Nat) (X Y pre post:List af) (n:Nat),X.length+Y.length≤k→0<X.length→0<Y.length→pre.length+X.length=m→m+Y.length≤5000→X.length+Y.length<n→X.length+Y.length<fu→
  ∃X' Y' pre' post':List af,X'.length=Y'.length∧pre'.length+X'.length=m∧m+X'.length≤5000∧X'.length<fu∧pre'++(Y'++(X'++post'))=pre++(Y++(X++post))∧
   aB (F.kx fu (m:Int)) n ((X.length:Int),(Y.length:Int),pre++(X++(Y++post)))=some ((X'.length:Int),pre'++(X'++(Y'++post')))
 | 0,X,Y,pre,post,n,hk,hx,hy,h1,h2,hn,hf=>by omega
 | k+1,X,Y,pre,post,n,hk,hx,hy,h1,h2,hn,hf=>by
  obtain⟨n,rfl⟩:∃f,n=f+1:=⟨n-1,by omega⟩
  simp only[aB,F.kx]
  by_cases he:X.length=Y.length
  ·refine⟨X,Y,pre,post,he,h1,by omega,by omega,rfl,?_⟩
   rw[PL.bne_false (by omega)]
   rfl
  ·rw[PL.bne_true (by omega)]
   simp only[cond_true]
   by_cases hg:Y.length<X.length
   ·obtain⟨X1,X2,rfl,hl⟩:∃X1 X2,X=X1++X2∧X1.length=Y.length:=⟨X.take Y.length,X.drop Y.length,by simp,by simp;omega⟩
    simp only[ak] at hx h1 he hg hn hk hf
    have hs:=GA fu (X:=X1) (Y:=Y) (pre:=pre) (eZ:=X2) (post:=post) (a:=IntKind.wrap .i64 ((m:Int)-((X1++X2).length:Int))) (b:=(m:Int)) (m:=(Y.length:Int)) hl (by omega)
     (by rw[ak,i64 (by omega) (by omega)];omega) (by omega) (by omega) (by omega)
    rw[PL.du (by rw[ak];omega)]
    simp only[cond_true,aC]
    rw[hs]
    have hb:Nat.beq (pre++(Y++(X2++(X1++post)))).length (pre++(X1++(X2++(Y++post)))).length=true:=by
     rw[Nat.beq_eq];simp;omega
    simp only[ae,hb,cond_true]
    obtain⟨X',Y',pre',post',e1,e2,e3,e5,e4,e6⟩:=Bf fu m hm k X2 X1 (pre++Y) post n (by omega) (by omega) (by omega) (by simp;omega) (by omega) (by omega) (by omega)
    refine⟨X',Y',pre',post',e1,e2,e3,e5,by rw[e4];simp,?_⟩
    rw[show IntKind.wrap .i64 (((X1++X2).length:Int)-(Y.length:Int))=(X2.length:Int) by rw[ak,i64 (by omega) (by omega)];omega,←hl]
    simpa using e6
   ·obtain⟨Y1,Y2,rfl,hl⟩:∃Y1 Y2,Y=Y1++Y2∧Y2.length=X.length:=⟨Y.take (Y.length-X.length),Y.drop (Y.length-X.length),by simp,by simp;omega⟩
    simp only[ak] at hy he hg hn hk hf h2
    have hs:=GA fu (X:=X) (Y:=Y2) (pre:=pre) (eZ:=Y1) (post:=post) (a:=IntKind.wrap .i64 ((m:Int)-(X.length:Int))) (b:=IntKind.wrap .i64 ((IntKind.wrap .i64 ((m:Int)+((Y1++Y2).length:Int)))-(X.length:Int))) (m:=(X.length:Int)) hl.symm (by omega)
     (by rw[i64 (by omega) (by omega)];omega) (by rw[ak,i64 (n:=(m:Int)+_) (by omega) (by omega),i64 (by omega) (by omega)];omega) (by omega) (by omega)
    rw[PL.cA (by rw[ak];omega)]
    simp only[cond_false,aC]
    rw[hs]
    have hb:Nat.beq (pre++(Y2++(Y1++(X++post)))).length (pre++(X++(Y1++(Y2++post)))).length=true:=by
     rw[Nat.beq_eq];simp;omega
    simp only[ae,hb,cond_true]
    obtain⟨X',Y',pre',post',e1,e2,e3,e5,e4,e6⟩:=Bf fu m hm k Y2 Y1 pre (X++post) n (by omega) (by omega) (by omega) (by omega) (by omega) (by omega) (by omega)
    refine⟨X',Y',pre',post',e1,e2,e3,e5,by rw[e4],?_⟩
    rw[show IntKind.wrap .i64 (((Y1++Y2).length:Int)-(X.length:Int))=(Y1.length:Int) by rw[ak,i64 (by omega) (by omega)];omega,←hl]
    exact e6
theorem Rn (fu:Nat){X Y pre post:List af}{a m b:Int}(hx:0<X.length) (hy:0<Y.length) (h:pre.length+X.length+Y.length≤5000)
  (ha:a=(pre.length:Int)) (hm:m=((pre.length+X.length:Nat):Int)) (hb:b=((pre.length+X.length+Y.length:Nat):Int)) (hf:X.length+Y.length<fu):
  F.gk fu a m b (pre++(X++(Y++post)))=some (pre++(Y++(X++post))):=by
 subst ha hm hb
 obtain⟨X',Y',pre',post',e1,e2,e3,e5,e4,e6⟩:=Bf fu (pre.length+X.length) (by omega) (X.length+Y.length) X Y pre post fu (by omega) hx hy rfl (by omega) hf hf
 unfold F.gk
 rw[show IntKind.wrap .i64 (((pre.length+X.length:Nat):Int)-(pre.length:Int))=(X.length:Int) by rw[i64 (by omega) (by omega)];omega,
  show IntKind.wrap .i64 (((pre.length+X.length+Y.length:Nat):Int)-((pre.length+X.length:Nat):Int))=(Y.length:Int) by rw[i64 (by omega) (by omega)];omega,e6]
 have hs:=GA fu (X:=X') (Y:=Y') (pre:=pre') (eZ:=[]) (post:=post') (a:=IntKind.wrap .i64 (((pre.length+X.length:Nat):Int)-(X'.length:Int))) (b:=((pre.length+X.length:Nat):Int)) (m:=(X'.length:Int)) e1 (by simp;omega)
  (by rw[i64 (by omega) (by omega)];omega) (by simp;omega) rfl e5
 simp only[dj] at hs
 simp only[ae]
 rw[hs]
 have hb:Nat.beq (pre'++(Y'++(X'++post'))).length (pre'++(X'++(Y'++post'))).length=true:=by
  rw[Nat.beq_eq];simp;omega
 simp only[ae,hb,cond_true]
 rw[e4]
end Go.DN.So
