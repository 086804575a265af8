/-
  Orders: the plain law of OrderRuns: sorting by insertion.
-/
import Derived.Test.YtfkigaldejbeiaaFqB
set_option linter.unusedSimpArgs false
set_option linter.unusedVariables false
namespace Go.DN.So
open Go.AM
theorem H3 (fu:Nat) (hf:2000<fu) (x:af) (hx:x.time.length≤1000) (pre:List af) (hp:pre.length≤2000):∀(R post:List af) (n:Nat),R.length≤2000→R.length<n→gg R.reverse→Tm R→
  ∃S1 S2,R.reverse=S1++S2∧(∀y∈S1,le y x)∧(∀y∈S2,lt x y)∧
  aB (F.eN fu (pre.length:Int)) n (((pre.length+R.length:Nat):Int),pre++(R.reverse++x::post))=some (pre++(S1++x::(S2++post)))
 | [],post,n,h,hn,hs,ht=>by
  obtain⟨n,rfl⟩:∃f,n=f+1:=⟨n-1,by omega⟩
  refine⟨[],[],rfl,by simp,by simp,?_⟩
  simp only[aB,F.eN,cX,dq]
  rw[PL.cA (by omega)]
  rfl
 | y::R,post,n,h,hn,hs,ht=>by
  obtain⟨n,rfl⟩:∃f,n=f+1:=⟨n-1,by omega⟩
  simp only[bA] at h hn
  have hq:IntKind.wrap .i64 ((((pre.length+(y::R).length:Nat):Int))-1)=((pre.length+R.length:Nat):Int):=by rw[bA,i64 (by omega) (by omega)];omega
  have hsw:=Py (P:=pre++R.reverse) (M:=[]) (Q:=post) (x:=y) (y:=x) (p:=IntKind.wrap .i64 ((((pre.length+(y::R).length:Nat):Int))-1)) (q:=((pre.length+(y::R).length:Nat):Int))
   (by rw[hq];simp) (by simp;omega)
  have i1:idx ((pre++R.reverse)++y::(x::post)) ((pre.length+R.length:Nat):Int)=some y:=zk (by simp)
  have i2:idx (((pre++R.reverse)++[y])++x::post) ((pre.length+(y::R).length:Nat):Int)=some x:=zk (by simp)
  obtain⟨c,hc,hd⟩:=Js fu x y hx hf
  simp only[aB,F.eN]
  rw[PL.du (by rw[bA];omega)]
  simp only[cond_true,List.reverse_cons,aC,bx,dj] at hsw i1 i2 hs⊢
  rw[hsw]
  simp only[hq,i1,i2,ae,hc,hd]
  cases hb:g8 x.time y.time with
  | true=>
   simp only[cond_true]
   obtain⟨S1,S2,e1,e2,e3,e4⟩:=H3 fu hf x hx pre hp R (y::post) n (by omega) (by omega) hs.left (fun z hz=>ht z (ao _ hz))
   refine⟨S1,S2++[y],by rw[e1,aC],e2,fun z hz=>?_,?_⟩
   ·rcases cP.1 hz with h | h
    ·exact e3 z h
    ·rw[cu.1 h];exact hb
   ·rw[e4];simp
  | false=>
   simp only[cond_false]
   refine⟨R.reverse++[y],[],by simp,fun z hz=>?_,by simp,by simp⟩
   rcases cP.1 hz with h | h
   ·exact(hs.eZ z h y (by simp)).trans hb
   ·rw[cu.1 h];exact hb
theorem QF (fu:Nat) (hf:2000<fu){x:af}(hx:x.time.length≤1000){pre S post:List af}(hp:pre.length≤2000) (n:Nat) (hl:S.length≤2000) (hn:S.length<n) (hs:gg S) (ht:Tm S){a j:Int}
  (ha:a=(pre.length:Int)) (hj:j=((pre.length+S.length:Nat):Int)):
  ∃C,gg C∧C.length=S.length+1∧FE C (S++[x])∧aB (F.eN fu a) n (j,pre++(S++x::post))=some (pre++(C++post)):=by
 subst ha hj
 obtain⟨S1,S2,e1,e2,e3,e4⟩:=H3 fu hf x hx pre hp S.reverse post n (by simpa using hl) (by simpa using hn) (by simpa using hs) (fun y hy=>ht y (by simpa using hy))
 rw[List.reverse_reverse] at e1 e4
 rw[List.length_reverse] at e4
 subst e1
 refine⟨S1++x::S2,?_,by simp;omega,?_,by rw[e4];simp⟩
 ·refine hs.left.gz (dQ.2 ⟨fun y hy=>(e3 y hy).le,hs.right⟩) fun y hy z hz=>?_
  rcases aZ.1 hz with h | h
  ·rw[h];exact e2 y hy
  ·exact(e2 y hy).trans (e3 z h).le
 ·rw[aC]
  exact(FE.refl S1).gz (FE.comm (a:=[x]) (b:=S2) fun y hy z hz=>by rw[cu.1 hy];exact(e3 z hz).ne)
theorem Tm.fe {a b:List af}(h:FE a b) (t:Tm b):Tm a:=fun x hx=>t x (h.mem hx)
theorem Tm.gz {a b:List af}(h:Tm a) (h':Tm b):Tm (a++b):=fun x hx=>by
 rcases cP.1 hx with h1 | h1
 ·exact h x h1
 ·exact h' x h1
theorem Tm.left {a b:List af}(h:Tm (a++b)):Tm a:=fun x hx=>h x (bV _ hx)
theorem Tm.right {a b:List af}(h:Tm (a++b)):Tm b:=fun x hx=>h x (cF _ hx)
theorem Fb (fu:Nat) (hf:2000<fu) (pre:List af) (a b:Int) (ha:a=(pre.length:Int)):∀(U S post:List af) (n:Nat),pre.length+S.length+U.length≤2000→U.length<n→gg S→Tm (S++U)→b=((pre.length+S.length+U.length:Nat):Int)→
  ∃C,gg C∧C.length=S.length+U.length∧FE C (S++U)∧aB (F.eM fu a b) n (((pre.length+S.length:Nat):Int),pre++(S++(U++post)))=some (pre++(C++post))
 | [],S,post,n,h,hn,hs,ht,hb=>by
  obtain⟨n,rfl⟩:∃f,n=f+1:=⟨n-1,by omega⟩
  refine⟨S,hs,rfl,by rw[cc];exact FE.refl _,?_⟩
  simp only[aB,F.eM]
  rw[PL.cA (by rw[hb];simp)]
  rfl
 | x::U,S,post,n,h,hn,hs,ht,hb=>by
  obtain⟨n,rfl⟩:∃f,n=f+1:=⟨n-1,by omega⟩
  simp only[bA] at h hn hb
  simp only[aB,F.eM]
  rw[PL.du (by omega)]
  obtain⟨C,c1,c2,c3,c4⟩:=QF fu hf (x:=x) (ht x (by simp)) (pre:=pre) (S:=S) (post:=U++post) (by omega) fu (by omega) (by omega) hs ht.left ha rfl
  simp only[cond_true,bx,c4,ae]
  have fe:FE (C++U) (S++x::U):=by
   have:=c3.gz (FE.refl U)
   rwa[aC] at this
  obtain⟨D,d1,d2,d3,d4⟩:=Fb fu hf pre a b ha U C post n (by omega) (by omega) c1 (ht.fe fe) (by omega)
  refine⟨D,d1,by rw[d2,c2,bA];omega,d3.trans fe,?_⟩
  rw[i64 (by omega) (by omega)]
  rw[show(((pre.length+S.length:Nat):Int))+1=((pre.length+C.length:Nat):Int) by omega]
  exact d4
def Sd (C A:List af):Prop:=gg C∧C.length=A.length∧FE C A
theorem HV (fu:Nat) (hf:2000<fu){pre A post:List af}(h:pre.length+A.length≤2000) (ht:Tm A){a b:Int}(ha:a=(pre.length:Int)) (hb:b=((pre.length+A.length:Nat):Int)):
  ∃C,Sd C A∧F.fp fu a b (pre++(A++post))=some (pre++(C++post)):=by
 unfold F.fp
 cases A with
 | nil=>
  refine⟨[],⟨List.Pairwise.nil,rfl,FE.refl _⟩,?_⟩
  obtain⟨f,rfl⟩:∃f,fu=f+1:=⟨fu-1,by omega⟩
  simp only[aB,F.eM]
  rw[PL.cA (by rw[i64 (by omega) (by omega)];simp at hb;omega)]
  rfl
 | cons x U=>
  simp only[bA] at h hb
  obtain⟨C,c1,c2,c3,c4⟩:=Fb fu hf pre a b ha U [x] post fu (by simp;omega) (by omega) (gg.one x) ht (by simp;omega)
  refine⟨C,⟨c1,by rw[c2];simp;omega,c3⟩,?_⟩
  rw[show IntKind.wrap .i64 (a+1)=((pre.length+[x].length:Nat):Int) by rw[i64 (by omega) (by omega)];simp;omega]
  simp only[bx,dj] at c4⊢
  rw[c4];rfl
end Go.DN.So
