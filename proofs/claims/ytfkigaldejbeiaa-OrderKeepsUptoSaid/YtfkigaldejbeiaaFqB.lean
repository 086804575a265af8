/-
  Orders: the plain law of OrderRuns: exchanges, shifts, rotations of parts of a list.
-/
import Derived.Test.YtfkigaldejbeiaaFqA
set_option linter.unusedSectionVars false
set_option linter.unusedSimpArgs false
set_option linter.unusedVariables false
namespace Go.DN.So
open Go.AM
theorem R0 (P Q:List ae) (x y:ae):(P++x::Q).set P.length y=P++y::Q:=by simp
theorem NT (P Q:List ae) (x:ae):(P++x::Q)[P.length]?=some x:=by simp
theorem yy {P Q:List ae}{x:ae}{p:Int}(hp:p=(P.length:Int)):idx (P++x::Q) p=some x:=by rw[hp];exact bJ (NT P Q x)
theorem FY {P Q:List ae}{x y:ae}{p:Int}(hp:p=(P.length:Int)):(P++x::Q).set p.toNat y=P++y::Q:=by rw[hp,bh];exact R0 P Q x y
theorem OI {P M Q:List ae}{x y:ae}{p q:Int}(hp:p=(P.length:Int)) (hq:q=((P.length+1+M.length:Nat):Int)):
  ((idx (P++x::(M++y::Q)) q).bind fun x7=>(idx (P++x::(M++y::Q)) p).bind fun x8=>u7 ((idx (P++x::(M++y::Q)) p).bind fun _=>
   (idx ((P++x::(M++y::Q)).set p.toNat x7) q).bind fun _=>some (((P++x::(M++y::Q)).set p.toNat x7).set q.toNat x8)))=some (P++y::(M++x::Q)):=by
 have e:∀(z w:ae),P++z::(M++w::Q)=(P++z::M)++w::Q:=fun z w=>by simp
 have l:∀z:ae,q=((P++z::M).length:Int):=fun z=>by rw[hq];congr 1;simp;omega
 simp only[yy hp,FY hp]
 rw[e x y,yy (l x)]
 simp only[ab,rN,FY hp]
 rw[e y y,yy (l y),FY (l y)]
 simp
theorem OH {P M Q:List ae}{x y:ae}{p q:Int}(hp:p=(P.length:Int)) (hq:q=((P.length+1+M.length:Nat):Int)):
  ((idx (P++x::(M++y::Q)) p).bind fun x7=>(idx (P++x::(M++y::Q)) q).bind fun x8=>u7 ((idx (P++x::(M++y::Q)) q).bind fun _=>
   (idx ((P++x::(M++y::Q)).set q.toNat x7) p).bind fun _=>some (((P++x::(M++y::Q)).set q.toNat x7).set p.toNat x8)))=some (P++y::(M++x::Q)):=by
 have e:∀(z w:ae),P++z::(M++w::Q)=(P++z::M)++w::Q:=fun z w=>by simp
 have l:∀z:ae,q=((P++z::M).length:Int):=fun z=>by rw[hq];congr 1;simp;omega
 simp only[yy hp]
 rw[e x y,yy (l x)]
 simp only[ab,rN,FY (l x)]
 rw[←e x x,yy hp,FY hp]
 simp
theorem Ml (self:Int→Int→Int→List ae→Option (List ae)) (fu:Nat) (x:ae) (post:List ae) (i:Nat) (hi:i≤5000):∀(B pre:List ae) (n:Nat),pre.length+B.length+1=i→B.length<n→
  aB (F.ib self fu (i:Int)) n ((pre.length:Int),pre++x::(B++post))=some (pre++(B++x::post))
 | [],pre,n,h,hn=>by
  obtain⟨n,rfl⟩:∃f,n=f+1:=⟨n-1,by omega⟩
  simp only[dN] at h
  simp only[aB,F.ib]
  rw[PL.cw (by rw[i64 (by omega) (by omega)];omega)]
  rfl
 | y::B,pre,n,h,hn=>by
  obtain⟨n,rfl⟩:∃f,n=f+1:=⟨n-1,by omega⟩
  simp only[bN] at h hn
  have hs:=OI (P:=pre) (M:=[]) (Q:=B++post) (x:=x) (y:=y) (p:=(pre.length:Int)) (q:=IntKind.wrap .i64 ((pre.length:Int)+1)) rfl (by rw[i64 (by omega) (by omega)];simp)
  simp only[aB,F.ib]
  rw[PL.dl (by rw[i64 (by omega) (by omega)];omega)]
  simp only[dc] at hs
  simp only[cond_true,bx]
  rw[hs]
  simp only[ab]
  have ih:=Ml self fu x post i hi B (pre++[y]) n (by simp;omega) (by omega)
  rw[i64 (by omega) (by omega)]
  simpa using ih
theorem MN (self:Int→Int→Int→List ae→Option (List ae)) (fu:Nat) (x:ae) (pre:List ae) (hi:pre.length≤5000):∀(R post:List ae) (n:Nat),R.length≤5000→R.length<n→
  aB (F.ia self fu (pre.length:Int)) n (((pre.length+R.length:Nat):Int),pre++(R.reverse++x::post))=some (pre++x::(R.reverse++post))
 | [],post,n,h,hn=>by
  obtain⟨n,rfl⟩:∃f,n=f+1:=⟨n-1,by omega⟩
  simp only[aB,F.ia,dN,di]
  rw[PL.cw (by omega)]
  rfl
 | y::R,post,n,h,hn=>by
  obtain⟨n,rfl⟩:∃f,n=f+1:=⟨n-1,by omega⟩
  simp only[bN] at h hn
  have hs:=OH (P:=pre++R.reverse) (M:=[]) (Q:=post) (x:=y) (y:=x) (p:=IntKind.wrap .i64 ((((pre.length+(y::R).length:Nat):Int))-1)) (q:=((pre.length+(y::R).length:Nat):Int))
   (by rw[bN,i64 (by omega) (by omega)];simp;omega) (by simp;omega)
  simp only[aB,F.ia]
  rw[PL.dl (by rw[bN];omega)]
  simp only[cond_true,List.reverse_cons,aC,bx,dc] at hs⊢
  rw[hs]
  simp only[ab]
  have ih:=MN self fu x pre hi R (y::post) n (by omega) (by omega)
  rw[show IntKind.wrap .i64 ((((pre.length+(y::R).length:Nat):Int))-1)=((pre.length+R.length:Nat):Int) by rw[bN,i64 (by omega) (by omega)];omega]
  exact ih
theorem FM (fu:Nat) (a b m:Int) (post:List ae):∀(X Y pre eW:List ae) (q n:Nat),X.length=Y.length→pre.length+X.length+eW.length+Y.length≤5000→q+X.length≤5000→
  a=(pre.length:Int)-q→b=((pre.length+X.length+eW.length:Nat):Int)-q→m=((q+X.length:Nat):Int)→X.length<n→
  aB (F.gP fu a b m) n ((q:Int),pre++(X++(eW++(Y++post))))=some (pre++(Y++(eW++(X++post))))
 | [],Y,pre,eW,q,n,h,h1,h2,ha,hb,hm,hn=>by
  obtain⟨n,rfl⟩:∃f,n=f+1:=⟨n-1,by omega⟩
  obtain rfl:Y=[]:=da.1 h.symm
  simp only[dN,di] at hm
  simp only[aB,F.gP]
  rw[PL.cw (by omega)]
  rfl
 | x::X,[],pre,eW,q,n,h,h1,h2,ha,hb,hm,hn=>by simp at h
 | x::X,y::Y,pre,eW,q,n,h,h1,h2,ha,hb,hm,hn=>by
  obtain⟨n,rfl⟩:∃f,n=f+1:=⟨n-1,by omega⟩
  simp only[bN] at h h1 h2 hb hm hn
  have hs:=OI (P:=pre) (M:=X++eW) (Q:=Y++post) (x:=x) (y:=y) (p:=IntKind.wrap .i64 (a+(q:Int))) (q:=IntKind.wrap .i64 (b+(q:Int)))
   (by rw[i64 (by omega) (by omega)];omega) (by rw[i64 (by omega) (by omega),aj];omega)
  simp only[aB,F.gP]
  rw[PL.dl (by omega)]
  simp only[cond_true,bx,aC] at hs⊢
  rw[hs]
  simp only[ab]
  have ih:=FM fu a b m post X Y (pre++[y]) (eW++[x]) (q+1) n (by omega) (by simp;omega) (by omega) (by simp;omega) (by simp;omega) (by omega) (by omega)
  rw[i64 (by omega) (by omega)]
  simpa using ih
theorem FL (fu:Nat){X Y pre eW post:List ae}{a b m:Int}(h:X.length=Y.length) (h1:pre.length+X.length+eW.length+Y.length≤5000)
  (ha:a=(pre.length:Int)) (hb:b=((pre.length+X.length+eW.length:Nat):Int)) (hm:m=(X.length:Int)) (hf:X.length<fu):
  F.fo fu a b m (pre++(X++(eW++(Y++post))))=some (pre++(Y++(eW++(X++post)))):=by
 have:=FM fu a b m post X Y pre eW 0 fu h h1 (by omega) (by simpa using ha) (by simpa using hb) (by simpa using hm) hf
 unfold F.fo
 rw[show((0:Nat):Int)=0 from rfl] at this
 rw[this];rfl
theorem AB (fu:Nat) (m:Nat) (hm:m≤5000):∀(k:Nat) (X Y pre post:List ae) (n:Nat),X.length+Y.length≤k→0<X.length→0<Y.length→pre.length+X.length=m→m+Y.length≤5000→X.length+Y.length<n→X.length+Y.length<fu→
  ∃X' Y' pre' post':List ae,X'.length=Y'.length∧pre'.length+X'.length=m∧m+X'.length≤5000∧X'.length<fu∧pre'++(Y'++(X'++post'))=pre++(Y++(X++post))∧
   aB (F.ko fu (m:Int)) n ((X.length:Int),(Y.length:Int),pre++(X++(Y++post)))=some ((X'.length:Int),pre'++(X'++(Y'++post')))
 | 0,X,Y,pre,post,n,hk,hx,hy,h1,h2,hn,hf=>by omega
 | k+1,X,Y,pre,post,n,hk,hx,hy,h1,h2,hn,hf=>by
  obtain⟨n,rfl⟩:∃f,n=f+1:=⟨n-1,by omega⟩
  simp only[aB,F.ko]
  by_cases he:X.length=Y.length
  ·refine⟨X,Y,pre,post,he,h1,by omega,by omega,rfl,?_⟩
   rw[PL.bne_false (by omega)]
   rfl
  ·rw[PL.bne_true (by omega)]
   simp only[cond_true]
   by_cases hg:Y.length<X.length
   ·obtain⟨X1,X2,rfl,hl⟩:∃X1 X2,X=X1++X2∧X1.length=Y.length:=⟨X.take Y.length,X.drop Y.length,by simp,by simp;omega⟩
    simp only[aj] at hx h1 he hg hn hk hf
    have hs:=FL fu (X:=X1) (Y:=Y) (pre:=pre) (eW:=X2) (post:=post) (a:=IntKind.wrap .i64 ((m:Int)-((X1++X2).length:Int))) (b:=(m:Int)) (m:=(Y.length:Int)) hl (by omega)
     (by rw[aj,i64 (by omega) (by omega)];omega) (by omega) (by omega) (by omega)
    rw[PL.dl (by rw[aj];omega)]
    simp only[cond_true,aC]
    rw[hs]
    have hb:Nat.beq (pre++(Y++(X2++(X1++post)))).length (pre++(X1++(X2++(Y++post)))).length=true:=by
     rw[Nat.beq_eq];simp;omega
    simp only[ab,hb,cond_true]
    obtain⟨X',Y',pre',post',e1,e2,e3,e5,e4,e6⟩:=AB fu m hm k X2 X1 (pre++Y) post n (by omega) (by omega) (by omega) (by simp;omega) (by omega) (by omega) (by omega)
    refine⟨X',Y',pre',post',e1,e2,e3,e5,by rw[e4];simp,?_⟩
    rw[show IntKind.wrap .i64 (((X1++X2).length:Int)-(Y.length:Int))=(X2.length:Int) by rw[aj,i64 (by omega) (by omega)];omega,←hl]
    simpa using e6
   ·obtain⟨Y1,Y2,rfl,hl⟩:∃Y1 Y2,Y=Y1++Y2∧Y2.length=X.length:=⟨Y.take (Y.length-X.length),Y.drop (Y.length-X.length),by simp,by simp;omega⟩
    simp only[aj] at hy he hg hn hk hf h2
    have hs:=FL fu (X:=X) (Y:=Y2) (pre:=pre) (eW:=Y1) (post:=post) (a:=IntKind.wrap .i64 ((m:Int)-(X.length:Int))) (b:=IntKind.wrap .i64 ((IntKind.wrap .i64 ((m:Int)+((Y1++Y2).length:Int)))-(X.length:Int))) (m:=(X.length:Int)) hl.symm (by omega)
     (by rw[i64 (by omega) (by omega)];omega) (by rw[aj,i64 (n:=(m:Int)+_) (by omega) (by omega),i64 (by omega) (by omega)];omega) (by omega) (by omega)
    rw[PL.cw (by rw[aj];omega)]
    simp only[cond_false,aC]
    rw[hs]
    have hb:Nat.beq (pre++(Y2++(Y1++(X++post)))).length (pre++(X++(Y1++(Y2++post)))).length=true:=by
     rw[Nat.beq_eq];simp;omega
    simp only[ab,hb,cond_true]
    obtain⟨X',Y',pre',post',e1,e2,e3,e5,e4,e6⟩:=AB fu m hm k Y2 Y1 pre (X++post) n (by omega) (by omega) (by omega) (by omega) (by omega) (by omega) (by omega)
    refine⟨X',Y',pre',post',e1,e2,e3,e5,by rw[e4],?_⟩
    rw[show IntKind.wrap .i64 (((Y1++Y2).length:Int)-(X.length:Int))=(Y1.length:Int) by rw[aj,i64 (by omega) (by omega)];omega,←hl]
    exact e6
theorem Qv (fu:Nat){X Y pre post:List ae}{a m b:Int}(hx:0<X.length) (hy:0<Y.length) (h:pre.length+X.length+Y.length≤5000)
  (ha:a=(pre.length:Int)) (hm:m=((pre.length+X.length:Nat):Int)) (hb:b=((pre.length+X.length+Y.length:Nat):Int)) (hf:X.length+Y.length<fu):
  F.gf fu a m b (pre++(X++(Y++post)))=some (pre++(Y++(X++post))):=by
 subst ha hm hb
 obtain⟨X',Y',pre',post',e1,e2,e3,e5,e4,e6⟩:=AB fu (pre.length+X.length) (by omega) (X.length+Y.length) X Y pre post fu (by omega) hx hy rfl (by omega) hf hf
 unfold F.gf
 rw[show IntKind.wrap .i64 (((pre.length+X.length:Nat):Int)-(pre.length:Int))=(X.length:Int) by rw[i64 (by omega) (by omega)];omega,
  show IntKind.wrap .i64 (((pre.length+X.length+Y.length:Nat):Int)-((pre.length+X.length:Nat):Int))=(Y.length:Int) by rw[i64 (by omega) (by omega)];omega,e6]
 have hs:=FL fu (X:=X') (Y:=Y') (pre:=pre') (eW:=[]) (post:=post') (a:=IntKind.wrap .i64 (((pre.length+X.length:Nat):Int)-(X'.length:Int))) (b:=((pre.length+X.length:Nat):Int)) (m:=(X'.length:Int)) e1 (by simp;omega)
  (by rw[i64 (by omega) (by omega)];omega) (by simp;omega) rfl e5
 simp only[dc] at hs
 simp only[ab]
 rw[hs]
 have hb:Nat.beq (pre'++(Y'++(X'++post'))).length (pre'++(X'++(Y'++post'))).length=true:=by
  rw[Nat.beq_eq];simp;omega
 simp only[ab,hb,cond_true]
 rw[e4]
end Go.DN.So
