/-
  Graphs: what a right graph is, tidied.
-/
import Derived.Test.YtongekoajbcliaaGreatDoorTdC
set_option linter.all false
set_option maxRecDepth 20000
namespace Go.DN.Pl
open Go.AM Go.PL
def vJ{fu:Nat}{g:bn}(h:(fK fu g).1=0):g.ah.length<=4096/\(∀k,k<g.ah.length->po fu (bF g.ah:Int) g.ah k=0)/\g.cQ.any (jz g.ah.length)=false:=by
 unfold fK at h;split at h;exact absurd h (by simp);rename_i c;split at h;rename_i a;exact absurd h a;rename_i a;split at h;exact absurd h (by simp);rename_i b;have a:uO fu (bF g.ah:Int) g.ah=0:=by simpa using a
 exact⟨by omega,Ov a,by simpa using b⟩
def PP{n:Nat}{l:List Int}(h:l.any (jz n)=false):∀a∈l,0<=a/\a<(n:Int):=fun a b=>by have:=gk.1 h a b;unfold jz at this;simp at this;omega
def S1{nodes:List ai}{k:Nat}{x:ai}(h:nodes[k]?=some x):nd nodes (k:Int)=x:=by unfold nd;rw[bI,bl,h];rfl
def U3{nodes:List ai}{k:Nat}{x:ai}(h:nodes[k]?=some x)(g:k<bF nodes):um x=false:=by have d:=bO h;cases m:um x with|false=>rfl|true=>exfalso;unfold bF at g;cases c:yq nodes with|none=>unfold yq at c;have:=lM.1 c k (gH.2 d);unfold Co at this;rw[h] at this;simp only[m,if_true] at this;cases this|some j=>rw[c] at g;have g:k<j:=g;unfold yq at c;obtain⟨e,a,r,i,b,o⟩:=List.findSome?_eq_some_iff.1 c;(have q:a=j:=by unfold Co at b;split at b;split at b;exact ed b;cases b;cases b);(have n:e.length=a:=by (have f:(List.range nodes.length)[e.length]?=some a:=by rw[i];simp);rw[cN] at f;exact ed f;have:=congrArg List.length i;simp at this;omega);(have p:k∈e:=by (have f:e[k]?=some k:=by have l:(List.range nodes.length)[k]?=some k:=cN d;rw[i,ew (by omega)] at l;exact l);exact ak f);have:=o k p;unfold Co at this;rw[h] at this;simp only[m,if_true] at this;cases this
def E4(g:bn):Prop:=(g.ah.length<=1048576/\∀x∈g.ah,Mp x.Op/\oq x.bU)/\oq g.cQ
def ze{g:bn}(h:E4 g):WR g:=⟨⟨by have:=h.1.1;omega,fun x a=>⟨Cr (h.1.2 x a).1,(h.1.2 x a).2.1⟩⟩,by have:=h.2.1;omega⟩
def wa{fu:Nat}{g:bn}(hg:E4 g)(h:(fK fu g).1=0):Cq g.ah/\(∀i,0<=i->i<(bF g.ah:Int)->(nd g.ah i).bU=[])/\∀o∈g.cQ,0<=o/\o<(g.ah.length:Int):=by
 obtain⟨z,v,u⟩:=vJ h;have m:∀(i:Int),0<=i->i<(g.ah.length:Int)->∃k x,i=((k:Nat):Int)/\g.ah[k]?=some x/\nd g.ah i=x/\(lg fu (bF g.ah:Int) x (jy fu (bF g.ah:Int) g.ah k)).2=0/\(jy fu (bF g.ah:Int) g.ah k).length=k:=fun i c d=>by (have f:i.toNat<g.ah.length:=by omega);have n:=af f;refine⟨i.toNat,_,by omega,n,?_,?_,zd (by omega)⟩;have:=S1 n;rwa[fV c] at this;rw[<-DY n];exact v _ f
 refine⟨⟨by omega,fun i c d a s=>?_,fun i c d=>?_⟩,fun i c d=>?_,PP u⟩;obtain⟨k,x,r,l,j,b,p⟩:=m i c d;rw[j] at s;have:=PP (JZ fu _ x _ b) a s;rw[p] at this;omega;obtain⟨k,x,r,l,j,b,p⟩:=m i c d;have:=hg.1.2 x (ak l);rw[j];exact⟨this.1,this.2.1⟩;have t:=tA g.ah;obtain⟨k,x,r,l,j,b,p⟩:=m i c (by omega);rw[j];have q:=U3 l (by omega);unfold lg at b;rw[JZ fu _ x _ (by unfold lg;exact b),if_neg (by decide),q,if_neg (by decide)] at b;split at b;exact absurd b (by simp);split at b;exact absurd b (by simp);rename_i w;have y:¬((x.bU.length:Int)>0):=fun e=>w (decide_eq_true e);exact bu (by omega)
def Qa{nodes:List ai}(b:Cq nodes){p:Nat}(c:p<=nodes.length){outs:List Int}(ho:∀o∈outs,0<=o/\o<(nodes.length:Int)):(vv nodes p outs).ah.length<=nodes.length/\(∀x∈(vv nodes p outs).ah,Ah x.Op/\x.bU.length<=1048576)/\(vv nodes p outs).cQ.length=outs.length:=by have a:xE nodes.length (gb nodes p outs):=(tM b.rt (k:=nodes.length) (i:=(nodes.length:Int)) (jh _) (jh _) outs (gB p) ho (IG c)).1;have e:=zf a;have f:=zX nodes (gb nodes p outs);exact⟨by show(runT nodes (gb nodes p outs)).1.length<=_;omega,JP b _ _ a.2 (fun x d=>by cases d),by show(List.map _ _).length=_;rw[aJ]⟩
end Go.DN.Pl
