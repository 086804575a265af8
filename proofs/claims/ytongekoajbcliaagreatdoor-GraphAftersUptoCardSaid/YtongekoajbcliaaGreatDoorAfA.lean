/-
  Graphs: one after another: the plain law of GraphAfters.
-/
import Derived.Test.YtongekoajbcliaaGreatDoorTdD
set_option linter.all false
set_option maxRecDepth 20000
namespace Go.DN.Pl
open Go.AM Go.PL
def Av{fu:Nat}{g:bn}(hg:WR g)(hf:4000000<fu)(h:(fK fu g).1=0):(fK fu g).2.length=g.ah.length/\DE (fK fu g).2:=by
 obtain⟨a,b,d⟩:=vJ h;have e:(fK fu g).2=jy fu (bF g.ah:Int) g.ah g.ah.length:=by unfold fK at h|-;split at h;exact absurd h (by simp);rename_i c;rw[if_neg c];split at h;rename_i a;exact absurd h a;rename_i a;rw[if_neg a];split at h;exact absurd h (by simp);rename_i b;rw[if_neg b]
 rw[e];exact⟨zd (aH _),Gu hg.1 hf (aH _) b⟩
def CM(df a:List (List Int))(outs:List Int)(k:Nat):Bool:=match outs[k]? with|some o=>decide (df.getD o.toNat []=a.getD k [])|none=>true
def AI{l:List (List Int)}{i:Int}(b:0<=i)(h1:i<(l.length:Int)):idx l i=some (l.getD i.toNat []):=by obtain⟨x,c,a⟩:=Tw b h1;rw[c,bl,a];rfl
def JV{l:List (List Int)}(h:DE l)(i:Nat):(l.getD i []).length<=6:=by rw[bl];cases a:l[i]? with|none=>exact iO _|some d=>exact h d (ak a)
abbrev FR:=Ex ((List ai)×(List Int)) (bn×Int)
def Nd(df a:List (List Int))(outs:List Int):FR:=if (List.range outs.length).all (CM df a outs) then .bL ([],[]) else .ret (⟨[],[]⟩,6)
def Nc{body:Int×List ai×List Int->Option ((Int×List ai×List Int)⊕FR)}(df c:List (List Int))(outs:List Int)(a:∀(k:Nat) o,outs[k]?=some o->body ((k:Int),[],[])=some (if CM df c outs k then .inl (((k+1:Nat):Int),[],[]) else .inr (.ret (⟨[],[]⟩,6))))(b:body ((outs.length:Int),[],[])=some (.inr (.bL ([],[]))))(fu:Nat)(hf:outs.length<fu):aL body fu (0,[],[])=some (Nd df c outs):=by have:=gL (body:=body) outs.length (fun k=>((k:Int),([]:List ai),([]:List Int))) (fun k=>if CM df c outs k then none else some (Ex.ret ((⟨[],[]⟩:bn),(6:Int)):FR)) (.bL ([],[])) (fun k e _=>by have d:=af e;rw[a k _ d];cases CM df c outs k <;> rfl) (fun _=>b) fu hf;rw[findAll] at this;have this:aL body fu (0,[],[])=_:=this;rw[this];unfold Nd;cases (List.range outs.length).all (CM df c outs) <;> rfl
def mV(f:bn)(n:Nat)(a:Int):Int:=if a<(n:Int) then f.cQ.getD a.toNat 0 else(f.ah.length:Int)+(a-(n:Int))
def Iw(f g:bn)(n:Nat)(i:Int):ai:=⟨(nd g.ah i).Op,(nd g.ah i).bU.map (mV f n)⟩
def mU(f:bn)(n k:Nat):List Int:=(List.range (n+k)).map fun (a:Nat)=>mV f n (a:Int)
def fB(f g:bn)(n k:Nat):List ai:=f.ah++(List.range k).map fun (q:Nat)=>Iw f g n ((n+q:Nat):Int)
def PQ{f:bn}{n:Nat}(h:f.cQ.length=n):mU f n 0=f.cQ:=by unfold mU;apply dm;intro q;rw[ao];by_cases hq:q<n;rw[cN (by omega)];show some (mV f n (q:Int))=_;unfold mV;rw[if_pos (by omega),bI,bl,af (by omega)];rfl;rw[bT (by simp;omega),bT (by omega)];rfl
def GC(f g:bn)(n:Nat):fB f g n 0=f.ah:=by unfold fB;simp
def kr(f g:bn)(n k:Nat):(fB f g n k).length=f.ah.length+k:=by unfold fB;simp
def HT(f:bn)(n k:Nat):(mU f n k).length=n+k:=by unfold mU;simp
def PR(f g:bn)(n k:Nat):mU f n (k+1)=mU f n k++[((fB f g n k).length:Int)]:=by unfold mU;rw[show n+(k+1)=(n+k)+1 by omega,mD,cS,kr];congr 1;show[mV f n ((n+k:Nat):Int)]=_;unfold mV;rw[if_neg (by omega)];congr 1;omega
def GD(f g:bn)(n k:Nat):fB f g n (k+1)=fB f g n k++[Iw f g n ((n+k:Nat):Int)]:=by unfold fB;rw[mD,cS,aS];rfl
def Uf(f:bn)(n k:Nat){a:Int}(b:0<=a)(h1:a<((n+k:Nat):Int)):idx (mU f n k) a=some (mV f n a):=by refine M9 b ?_;unfold mU;rw[ao,cN (by omega)];show some (mV f n ((a.toNat:Nat):Int))=_;rw[fV b]
def args_at(f:bn)(n k:Nat)(x:ai)(o:cq)(h:∀a∈x.bU,0<=a/\a<((n+k:Nat):Int))(i:x.bU.length<=1048576){body:Int×Int×(List Int)×(List Int)×(List Int)×(List Int)×(List Int)×Int×(List Int)->Option ((Int×Int×(List Int)×(List Int)×(List Int)×(List Int)×(List Int)×Int×(List Int))⊕(Int×(List Int)×(List Int)×(List Int)×(List Int)×(List Int)×Int×(List Int)))}(b:∀(q:Nat) a m,x.bU[q]?=some a->m.length=q->body ((q:Int),o.Kind,o.av,o.At,o.Lo,o.Hi,o.Step,o.Value,m)=(idx (mU f n k) a).bind fun v=>some (.inl (((q+1:Nat):Int),o.Kind,o.av,o.At,o.Lo,o.Hi,o.Step,o.Value,m++[v])))(d:∀m,body ((x.bU.length:Int),o.Kind,o.av,o.At,o.Lo,o.Hi,o.Step,o.Value,m)=some (.inr (o.Kind,o.av,o.At,o.Lo,o.Hi,o.Step,o.Value,m)))(fu:Nat)(hf:4200000<fu):aL body fu (0,o.Kind,o.av,o.At,o.Lo,o.Hi,o.Step,o.Value,([]:List Int))=some (o.Kind,o.av,o.At,o.Lo,o.Hi,o.Step,o.Value,x.bU.map (mV f n)):=by have g:=eD (body:=body) x.bU (fun q=>((q:Int),o.Kind,o.av,o.At,o.Lo,o.Hi,o.Step,o.Value,(x.bU.take q).map (mV f n))) (o.Kind,o.av,o.At,o.Lo,o.Hi,o.Step,o.Value,x.bU.map (mV f n)) (fun q a e=>by have c:=h a (ak e);rw[b q a _ e (by rw[aJ];exact ox e),Uf f n k c.1 c.2];simp only[aa];rw[take_succ e,cS];rfl) (by rw[d,bM]) fu (by omega);exact g
def Mz{f g:bn}{n k:Nat}{i:Int}(a:0<=i)(h1:i<((fB f g n k).length:Int)):(i<(f.ah.length:Int)/\nd (fB f g n k) i=nd f.ah i)\/∃q:Nat,q<k/\i=((f.ah.length+q:Nat):Int)/\nd (fB f g n k) i=Iw f g n ((n+q:Nat):Int):=by rw[kr] at h1;by_cases hi:i<(f.ah.length:Int);refine .inl ⟨hi,?_⟩;unfold nd fB;rw[bl,bl,ew (by omega)];refine .inr ⟨(i-(f.ah.length:Int)).toNat,by omega,by omega,?_⟩;unfold nd fB;rw[bl,fY (by omega),ao,cN (by omega)];show Iw f g n _=_;congr 3;omega
def YD{f g:bn}{n k:Nat}(s:Cq f.ah)(t:Cq g.ah)(w:f.ah.length<=4096)(u:g.ah.length<=4096)(r:∀o∈f.cQ,0<=o/\o<(f.ah.length:Int))(hn:f.cQ.length=n)(y:n+k=g.ah.length):Cq (fB f g n k):=by
 have p:∀(q:Nat) (a:Int),0<=a->a<((n+q:Nat):Int)->0<=mV f n a/\mV f n a<((f.ah.length+q:Nat):Int):=fun q a d l=>by unfold mV;split;rename_i h;(have e:a.toNat<f.cQ.length:=by omega);have:=r (f.cQ.getD a.toNat 0) (by rw[bl,af e];exact ff e);omega;omega
 refine⟨by rw[kr];omega,fun i d l a j=>?_,fun i d l=>?_⟩;rcases Mz d l with ⟨m,c⟩|⟨q,x,rfl,c⟩;rw[c] at j;exact s.rt i d m a j;rw[c] at j;obtain⟨b,v,rfl⟩:=eL.1 j;have:=t.rt ((n+q:Nat):Int) (by omega) (by omega) b v;exact p q b this.1 this.2;rcases Mz d l with ⟨m,c⟩|⟨q,x,rfl,c⟩;rw[c];exact s.op i d m;rw[c];have:=t.op ((n+q:Nat):Int) (by omega) (by omega);exact⟨this.1,by show(List.map _ _).length<=_;rw[aJ];exact this.2⟩
def QD{f g:bn}{n k:Nat}:bF f.ah<=(fB f g n k).length:=by have:=tA f.ah;rw[kr];omega
def Ul{f g:bn}{n k:Nat}(d:∀i,0<=i->i<(bF f.ah:Int)->(nd f.ah i).bU=[]):∀i,0<=i->i<(bF f.ah:Int)->(nd (fB f g n k) i).bU=[]:=fun i b c=>by have l:=tA f.ah;rcases Mz (f:=f) (g:=g) (n:=n) (k:=k) b (by rw[kr];omega) with ⟨j,a⟩|⟨q,h,e,a⟩;rw[a];exact d i b c;omega
end Go.DN.Pl
