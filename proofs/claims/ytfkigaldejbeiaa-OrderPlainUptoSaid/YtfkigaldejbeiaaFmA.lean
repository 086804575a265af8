/-
  Orders: the plain law of OrderFinds: the map's data: who puts, adds, uc where.
-/
import Derived.Test.YtfkigaldejbeiaaFvQ
set_option linter.unusedSimpArgs false
set_option linter.unusedVariables false
namespace Go.DN.So
open Go.AM Go.DN
theorem sa {α:Type}{l:List α}{x:α}(h:x∈l):∃i:Nat,l[i]?=some x:=bR h
theorem at_mem {α:Type}{l:List α}{i:Nat}{x:α}(h:l[i]?=some x):x∈l:=ar h
def mw (e:bS):Nat→Option Nat
 | 0=>some e.t
 | j+1=>match e.f[j]? with
  | some (z,_::_)=>some z
  | _=>none
theorem tE {e:bS}{j z:Nat}{l:List Int}(h:e.f[j]?=some (z,l)) (hl:l≠[]):mw e (j+1)=some z:=by
 cases l with
 | nil=>exact absurd rfl hl
 | cons a r=>simp only[mw,h]
theorem Fa {e:bS}{j x:Nat}(h:mw e (j+1)=some x):∃l,l≠[]∧e.f[j]?=some (x,l):=by
 simp only[mw] at h
 split at h
 ·rename_i z a r hf
  cases h
  exact⟨_,by simp,hf⟩
 ·cases h
structure WM (d:bH):Prop where
 len:∀e∈d.es,e.f.length=3
 inj:∀(i i' j j' x:Nat) (e e':bS),d.es[i]?=some e→d.es[i']?=some e'→mw e j=some x→mw e' j'=some x→i=i'∧j=j'
 lt:∀e∈d.es,∀(j x:Nat),mw e j=some x→x<d.n
 nil:∀e∈d.es,∀(j z:Nat),e.f[j]?=some (z,[])→z=iK
 pd:d.pd=none
def cv (d:bH) (a b:Int) (j:Nat):List Int:=match gF d.es a b with
 | some e=>match e.f[j]? with
  | some p=>p.2
  | none=>[]
 | none=>[]
theorem oQ {a b:Int}{e:bS}:∀{es:List bS},gF es a b=some e→e∈es∧e.a=a∧e.b=b
 | [],h=>by cases h
 | x::r,h=>by
  simp only[gF] at h
  cases hb:(decide (a=x.a)&&decide (b=x.b)) with
  | true=>
   rw[hb] at h;cases h
   simp only[aj,decide_eq_true_eq] at hb
   exact⟨au,hb.1.symm,hb.2.symm⟩
  | false=>rw[hb] at h;obtain⟨h1,h2⟩:=oQ h;exact⟨ao _ h1,h2⟩
theorem Bu {a b:Int}(l:List bS):∀{es:List bS},gF (es++l) a b=match gF es a b with | some e=>some e | none=>gF l a b
 | []=>rfl
 | x::r=>by
  simp only[bx,gF]
  cases hb:(decide (a=x.a)&&decide (b=x.b)) with
  | true=>rfl
  | false=>exact Bu l
theorem E1 {t:Nat}{e:bS}:∀{es:List bS},vG es t=some e→e∈es∧e.t=t
 | [],h=>by cases h
 | x::r,h=>by
  simp only[vG] at h
  cases hb:Nat.beq x.t t with
  | true=>rw[hb] at h;cases h;exact⟨au,aa hb⟩
  | false=>rw[hb] at h;obtain⟨h1,h2⟩:=E1 h;exact⟨ao _ h1,h2⟩
theorem Hx {e:bS}:∀{es:List bS},e∈es→∃e',vG es e.t=some e'
 | x::r,h=>by
  simp only[vG]
  cases hb:Nat.beq x.t e.t with
  | true=>exact⟨x,rfl⟩
  | false=>
   rcases aZ.1 h with h | h
   ·subst h;rw[aI] at hb;cases hb
   ·exact Hx h
theorem WM.same {d:bH}(w:WM d){e e':bS}(h:e∈d.es) (h':e'∈d.es){j j' x:Nat}(k:mw e j=some x) (k':mw e' j'=some x):e=e'∧j=j':=by
 obtain⟨i,hi⟩:=sa h
 obtain⟨i',hi'⟩:=sa h'
 obtain⟨a,b⟩:=w.inj i i' j j' x e e' hi hi' k k'
 subst a
 rw[hi] at hi'
 exact⟨by cases hi';rfl,b⟩
theorem WM.vQ {d:bH}(w:WM d){e:bS}(h:e∈d.es):vG d.es e.t=some e:=by
 obtain⟨e',he⟩:=Hx h
 obtain⟨h1,h2⟩:=E1 he
 rw[he,(w.same h h1 (j:=0) (j':=0) rfl (by rw[mw,h2])).1]
theorem WM.Nk {d:bH}(w:WM d){e:bS}(h:e∈d.es) (j:Nat):iz d.es e.t j=e.f[j]?:=by
 unfold iz;rw[w.vQ h];rfl
theorem xi {z:Nat}{l:List Int}:∀{f:List (Nat×List Int)},oL z f=some l→l≠[]∧∃j:Nat,f[j]?=some (z,l)
 | [],h=>by cases h
 | (x,[])::r,h=>by
  obtain⟨h1,j,h2⟩:=xi (f:=r) h
  exact⟨h1,j+1,h2⟩
 | (x,a::l')::r,h=>by
  simp only[oL] at h
  cases hb:Nat.beq x z with
  | true=>
   rw[hb] at h;cases h
   rw[aa hb]
   exact⟨by simp,0,rfl⟩
  | false=>rw[hb] at h;obtain⟨h1,j,h2⟩:=xi (f:=r) h;exact⟨h1,j+1,h2⟩
theorem E4 {z:Nat}{l:List Int}:∀{es:List bS},xj z es=some l→l≠[]∧∃e∈es,∃j:Nat,e.f[j]?=some (z,l)
 | [],h=>by cases h
 | e::r,h=>by
  simp only[xj] at h
  cases hf:oL z e.f with
  | some l'=>rw[hf] at h;cases h;obtain⟨h1,j,h2⟩:=xi hf;exact⟨h1,e,au,j,h2⟩
  | none=>rw[hf] at h;obtain⟨h1,e',h2,h3⟩:=E4 (es:=r) h;exact⟨h1,e',ao _ h2,h3⟩
theorem zd {z:Nat}{l:List Int}(hl:l≠[]):∀{f:List (Nat×List Int)}{j:Nat},f[j]?=some (z,l)→∃l',oL z f=some l'
 | [],j,h=>by simp at h
 | (x,[])::r,0,h=>by simp at h;exact absurd h.2 hl
 | (x,[])::r,j+1,h=>zd hl (f:=r) (j:=j) (by simpa using h)
 | (x,a::l')::r,j,h=>by
  simp only[oL]
  cases hb:Nat.beq x z with
  | true=>exact⟨_,rfl⟩
  | false=>
   cases j with
   | zero=>simp at h;rw[h.1,aI] at hb;cases hb
   | succ j=>exact zd hl (f:=r) (j:=j) (by simpa using h)
theorem Hz {z:Nat}{l:List Int}(hl:l≠[]){e:bS}{j:Nat}(hj:e.f[j]?=some (z,l)):∀{es:List bS},e∈es→∃l',xj z es=some l'
 | x::r,h=>by
  simp only[xj]
  cases hf:oL z x.f with
  | some l'=>exact⟨l',rfl⟩
  | none=>
   rcases aZ.1 h with h | h
   ·subst h
    obtain⟨l',h1⟩:=zd hl hj
    rw[hf] at h1;cases h1
   ·exact Hz hl hj h
theorem WM.row {d:bH}(w:WM d){e:bS}(h:e∈d.es){j z:Nat}{l:List Int}(hj:e.f[j]?=some (z,l)) (hl:l≠[]):xj z d.es=some l:=by
 obtain⟨l',h1⟩:=Hz hl hj h
 obtain⟨h2,e',h3,j',h4⟩:=E4 h1
 obtain⟨a,b⟩:=w.same h h3 (tE hj hl) (tE h4 h2)
 subst a
 have:j=j':=by omega
 subst this
 rw[hj] at h4
 cases h4
 exact h1
theorem WM.cell {d:bH}(w:WM d){e:bS}(h:e∈d.es){j z i:Nat}{l:List Int}{x:Int}(hj:e.f[j]?=some (z,l)) (hx:l[i]?=some x):nM d.es z i=some x:=by
 unfold nM
 rw[w.row h hj (fun e=>by subst e;simp at hx)]
 exact hx
theorem tY (a b:Int) (t j x:Nat) (h:mw ⟨a,b,t,List.replicate 3 (iK,[])⟩ j=some x):j=0∧x=t:=by
 match j,h with
 | 0,h=>cases h;exact⟨rfl,rfl⟩
 | 1,h=>cases h
 | 2,h=>cases h
 | 3,h=>cases h
 | j+4,h=>simp[mw] at h
theorem DI {α:Type}{l:List α}{y x:α}{i:Nat}(h:(l++[y])[i]?=some x):l[i]?=some x∨(i=l.length∧x=y):=by
 rw[a9] at h
 split at h
 ·exact .inl h
 ·rename_i hlt
  have h0:i-l.length=0:=by
   have:=(al.1 h).1
   simp at this
   omega
  rw[h0] at h
  cases h
  exact .inr ⟨by omega,rfl⟩
theorem WM.put {d:bH}(w:WM d) (a b:Int):WM (ze d a b 3):=by
 refine {len:=fun e he=>?_,inj:=fun i i' j j' x e e' h1 h2 h3 h4=>?_,lt:=fun e he j x h=>?_,nil:=fun e he j z h=>?_,pd:=w.pd}
 ·rcases cP.1 he with he | he
  ·exact w.len e he
  ·rw[cu.1 he];rfl
 ·rcases DI h1 with h1 | ⟨e1,q1⟩ <;> rcases DI h2 with h2 | ⟨e2,q2⟩
  ·exact w.inj i i' j j' x e e' h1 h2 h3 h4
  ·subst q2
   obtain⟨_,hx⟩:=tY _ _ _ _ _ h4
   have:=w.lt e (at_mem h1) j x h3
   omega
  ·subst q1
   obtain⟨_,hx⟩:=tY _ _ _ _ _ h3
   have:=w.lt e' (at_mem h2) j' x h4
   omega
  ·subst q1;subst q2
   exact⟨by omega,by rw[(tY _ _ _ _ _ h3).1,(tY _ _ _ _ _ h4).1]⟩
 ·rcases cP.1 he with he | he
  ·exact Nat.lt_succ_of_lt (w.lt e he j x h)
  ·rw[cu.1 he] at h
   rw[(tY _ _ _ _ _ h).2]
   exact jV _
 ·rcases cP.1 he with he | he
  ·exact w.nil e he j z h
  ·rw[cu.1 he] at h
   have h:(List.replicate 3 ((iK,[]):Nat×List Int))[j]?=some (z,[]):=h
   have:=gO (at_mem h)
   cases this;rfl
theorem N9 {d:bH}{a b:Int}(hno:gF d.es a b=none) (a' b':Int) (j:Nat):cv (ze d a b 3) a' b' j=cv d a' b' j:=by
 unfold cv
 show(match gF (d.es++[⟨a,b,d.n,List.replicate 3 (iK,[])⟩]) a' b' with | some e=>_ | none=>_)=_
 rw[Bu]
 cases h:gF d.es a' b' with
 | some e=>rfl
 | none=>
  dsimp only
  simp only[gF]
  cases (decide (a'=a)&&decide (b'=b)) with
  | false=>rfl
  | true=>
   simp only[cond_true]
   match j with
   | 0=>rfl
   | 1=>rfl
   | 2=>rfl
   | j+3=>rfl
theorem CO {z k:Nat}:∀{f:List (Nat×List Int)}{s:Nat},uU z f s=some k→∃j l,k=s+j∧f[j]?=some (z,l)
 | [],s,h=>by cases h
 | (x,l)::r,s,h=>by
  simp only[uU] at h
  cases hb:Nat.beq x z with
  | true=>rw[hb] at h;cases h;rw[aa hb];exact⟨0,l,rfl,rfl⟩
  | false=>rw[hb] at h;obtain⟨j,l',h1,h2⟩:=CO h;exact⟨j+1,l',by omega,h2⟩
theorem E2 {z:Nat}{p:Nat×Nat}:∀{es:List bS},zc z es=some p→∃e∈es,∃l,p.1=e.t∧e.f[p.2]?=some (z,l)
 | [],h=>by cases h
 | e::r,h=>by
  simp only[zc] at h
  cases hf:uU z e.f 0 with
  | some j=>
   rw[hf] at h;cases h
   obtain⟨j',l,h1,h2⟩:=CO hf
   exact⟨e,au,l,rfl,by rw[show(e.t,j).2=j' by show j=j';omega];exact h2⟩
  | none=>rw[hf] at h;obtain⟨e',h1,h2⟩:=E2 (es:=r) h;exact⟨e',ao _ h1,h2⟩
theorem E3 {z:Nat}{l:List Int}:∀{f:List (Nat×List Int)}{j s:Nat},f[j]?=some (z,l)→∃k,uU z f s=some k
 | [],j,s,h=>by simp at h
 | (x,l')::r,j,s,h=>by
  simp only[uU]
  cases hb:Nat.beq x z with
  | true=>exact⟨s,rfl⟩
  | false=>
   cases j with
   | zero=>simp at h;rw[h.1,aI] at hb;cases hb
   | succ j=>exact E3 (f:=r) (j:=j) (by simpa using h)
theorem Hy {z:Nat}{l:List Int}{e:bS}{j:Nat}(hj:e.f[j]?=some (z,l)):∀{es:List bS},e∈es→∃p,zc z es=some p
 | x::r,h=>by
  simp only[zc]
  cases hf:uU z x.f 0 with
  | some j=>exact⟨_,rfl⟩
  | none=>
   rcases aZ.1 h with h | h
   ·subst h
    obtain⟨k,h1⟩:=E3 (s:=0) hj
    rw[hf] at h1;cases h1
   ·exact Hy hj h
theorem WM.src {d:bH}(w:WM d) (hn:d.n≤100000){e:bS}(h:e∈d.es){j z:Nat}{l:List Int}(hj:e.f[j]?=some (z,l)) (hl:l≠[]):zc z d.es=some (e.t,j):=by
 obtain⟨p,h1⟩:=Hy hj h
 obtain⟨e',h2,l',h3,h4⟩:=E2 h1
 have hz:=w.lt e h (j+1) z (tE hj hl)
 have hl':l'≠[]:=fun e0=>by
  subst e0
  have:=w.nil e' h2 p.2 z h4
  rw[this] at hz
  have:iK=2^63:=rfl
  omega
 obtain⟨a,b⟩:=w.same h h2 (tE hj hl) (tE h4 hl')
 subst a
 obtain⟨p1,p2⟩:=p
 simp only at h3 b
 have:p2=j:=by omega
 rw[h1,h3,this]
def Hv (d:bH) (e:bS) (j:Nat) (l:List Int) (x:Int):bH:=⟨d.n+1,rF d.es e.t j (d.n,l++[x]),none⟩
theorem WM.gz {d:bH}(w:WM d) (hn:d.n≤100000){e:bS}(h:e∈d.es){j z:Nat}{l:List Int}(hj:e.f[j]?=some (z,l)) (hl:l.length≤100000) (x:Int):
  ∃d1,pX d z l.length x 8=some d1∧kf d1 e.t j d.n (l.length+1)=some (Hv d e j l x):=by
 have hlen:=w.len e h
 have hj3:j<e.f.length:=(al.1 hj).1
 have hc:bo (d.pd.isNone=true∧d.n+1≤maxLen∧l.length+1≤maxLen∧(l.length+1)*8≤140737488355328)=some ():=bJ ⟨by rw[w.pd];rfl,by simp only[maxLen];omega,by simp only[maxLen];omega,by omega⟩
 by_cases h0:l=[]
 ·subst h0
  have hz:=w.nil e h j z hj
  refine⟨⟨d.n+1,d.es,some (none,d.n,[x])⟩,?_,?_⟩
  ·have hc:bo (d.pd.isNone=true∧d.n+1≤maxLen∧0+1≤maxLen∧(0+1)*8≤140737488355328)=some ():=hc
   show(bo (d.pd.isNone=true∧d.n+1≤maxLen∧0+1≤maxLen∧(0+1)*8≤140737488355328)).bind _=_
   rw[hc,ae]
   show(bo (z=iK)).bind _=_
   rw[bJ hz];rfl
  ·unfold kf
   dsimp only
   rw[bJ (by exact⟨rfl,rfl,.inl rfl⟩),ae,w.vQ h,ae,bJ hj3]
   rfl
 ·obtain⟨a,r,rfl⟩:∃a r,l=a::r:=by
   cases l with
   | nil=>exact absurd rfl h0
   | cons a r=>exact⟨a,r,rfl⟩
  refine⟨⟨d.n+1,d.es,some (some (e.t,j),d.n,(a::r)++[x])⟩,?_,?_⟩
  ·unfold pX
   rw[hc,ae]
   show(zc z d.es).bind _=_
   rw[w.src hn h hj h0,ae]
   show(iz d.es e.t j).bind _=_
   rw[w.Nk h,hj,ae]
   show(bo (z=z∧(a::r).length=r.length+1)).bind _=_
   rw[bJ ⟨rfl,rfl⟩];rfl
  ·unfold kf
   dsimp only
   rw[bJ (by exact⟨rfl,by simp,.inr rfl⟩),ae,w.vQ h,ae,bJ hj3]
   rfl
theorem MT {es:List bS}{t j i:Nat}{p:Nat×List Int}{e':bS}(h:(rF es t j p)[i]?=some e'):∃e,es[i]?=some e∧((e.t=t∧e'={e with f:=e.f.set j p})∨(e.t≠t∧e'=e)):=by
 unfold rF at h
 rw[ay] at h
 obtain⟨e,h1,rfl⟩:=av.1 h
 refine⟨e,h1,?_⟩
 cases hb:Nat.beq e.t t with
 | true=>exact .inl ⟨aa hb,rfl⟩
 | false=>exact .inr ⟨(fun e'=>by rw[e',aI] at hb;cases hb),rfl⟩
theorem OG {e:bS}{j n j' x:Nat}{l:List Int}(hl:l≠[]) (hj:j<e.f.length) (h:mw {e with f:=e.f.set j (n,l)} j'=some x):(j'=j+1∧x=n)∨(j'≠j+1∧mw e j'=some x):=by
 cases j' with
 | zero=>exact .inr ⟨by omega,h⟩
 | succ k=>
  by_cases hk:k=j
  ·subst hk
   obtain⟨l',h1,h2⟩:=Fa h
   have h2:(e.f.set k (n,l))[k]?=some (x,l'):=h2
   rw[cG hj] at h2
   cases h2
   exact .inl ⟨rfl,rfl⟩
  ·refine .inr ⟨by omega,?_⟩
   obtain⟨l',h1,h2⟩:=Fa h
   have h2:(e.f.set j (n,l))[k]?=some (x,l'):=h2
   rw[eG (fun e=>hk e.symm)] at h2
   exact tE h2 h1
theorem WM.fV {d:bH}(w:WM d){e:bS}(h:e∈d.es){j:Nat}(hj:j<3) (l:List Int) (x:Int):WM (Hv d e j l x):=by
 have hlx:l++[x]≠[]:=by simp
 have hje:∀e1∈d.es,j<e1.f.length:=fun e1 h1=>by rw[w.len e1 h1];exact hj
 have rY:∀{i:Nat}{e':bS},(Hv d e j l x).es[i]?=some e'→∃e1,d.es[i]?=some e1∧e1∈d.es∧((e1=e∧e'={e with f:=e.f.set j (d.n,l++[x])})∨(e1.t≠e.t∧e'=e1)):=by
  intro i e' h1
  obtain⟨e1,h2,h3⟩:=MT h1
  refine⟨e1,h2,at_mem h2,?_⟩
  rcases h3 with ⟨h3,h4⟩ | h3
  ·have:=(w.same (at_mem h2) h (j:=0) (j':=0) rfl (by rw[mw,h3])).1
   subst this
   exact .inl ⟨rfl,h4⟩
  ·exact .inr h3
 have lq:∀{i:Nat}{e':bS}{j' y:Nat},(Hv d e j l x).es[i]?=some e'→mw e' j'=some y→∃e1,d.es[i]?=some e1∧((e1=e∧j'=j+1∧y=d.n)∨(mw e1 j'=some y)):=by
  intro i e' j' y h1 h2
  obtain⟨e1,h3,h4,h5⟩:=rY h1
  refine⟨e1,h3,?_⟩
  rcases h5 with ⟨rfl,rfl⟩ | ⟨_,rfl⟩
  ·rcases OG hlx (hje _ h4) h2 with ⟨a,b⟩ | ⟨_,b⟩
   ·exact .inl ⟨rfl,a,b⟩
   ·exact .inr b
  ·exact .inr h2
 refine {len:=fun e' he=>?_,inj:=fun i i' j1 j2 y e1 e2 h1 h2 h3 h4=>?_,lt:=fun e' he j' y h1=>?_,nil:=fun e' he j' z h1=>?_,pd:=rfl}
 ·obtain⟨i,hi⟩:=sa he
  obtain⟨e1,_,h4,h5⟩:=rY hi
  rcases h5 with ⟨rfl,rfl⟩ | ⟨_,rfl⟩
  ·show(e1.f.set j _).length=3
   rw[cW];exact w.len _ h4
  ·exact w.len _ h4
 ·obtain⟨a1,p1,q1⟩:=lq h1 h3
  obtain⟨a2,p2,q2⟩:=lq h2 h4
  rcases q1 with ⟨r1,r2,r3⟩ | r1 <;> rcases q2 with ⟨s1,s2,s3⟩ | s1
  ·rw[r1] at p1;rw[s1] at p2
   exact⟨(w.inj i i' 0 0 e.t e e p1 p2 rfl rfl).1,by omega⟩
  ·have:=w.lt a2 (at_mem p2) j2 y s1
   omega
  ·have:=w.lt a1 (at_mem p1) j1 y r1
   omega
  ·exact w.inj i i' j1 j2 y a1 a2 p1 p2 r1 s1
 ·obtain⟨i,hi⟩:=sa he
  obtain⟨a1,p1,q1⟩:=lq hi h1
  show y<d.n+1
  rcases q1 with ⟨_,_,r3⟩ | r1
  ·omega
  ·have:=w.lt a1 (at_mem p1) j' y r1
   omega
 ·obtain⟨i,hi⟩:=sa he
  obtain⟨e1,_,h4,h5⟩:=rY hi
  rcases h5 with ⟨rfl,rfl⟩ | ⟨_,rfl⟩
  ·have h1:(e1.f.set j (d.n,l++[x]))[j']?=some (z,[]):=h1
   by_cases hk:j'=j
   ·subst hk
    rw[cG (hje _ h4)] at h1
    simp at h1
   ·rw[eG (fun e=>hk e.symm)] at h1
    exact w.nil _ h4 j' z h1
  ·exact w.nil _ h4 j' z h1
theorem HB {t j:Nat}{p:Nat×List Int}(a b:Int):∀es:List bS,gF (rF es t j p) a b=(gF es a b).map fun e=>bif Nat.beq e.t t then {e with f:=e.f.set j p} else e
 | []=>rfl
 | e::r=>by
  have ih:=HB (t:=t) (j:=j) (p:=p) a b r
  simp only[rF,aJ,gF] at ih⊢
  have h1:(bif Nat.beq e.t t then {e with f:=e.f.set j p} else e:bS).a=e.a:=by cases Nat.beq e.t t <;> rfl
  have h2:(bif Nat.beq e.t t then {e with f:=e.f.set j p} else e:bS).b=e.b:=by cases Nat.beq e.t t <;> rfl
  rw[h1,h2]
  cases (decide (a=e.a)&&decide (b=e.b)) with
  | true=>rfl
  | false=>exact ih
theorem GV {d:bH}(w:WM d){a b:Int}{e:bS}(h:gF d.es a b=some e){j z:Nat}{l:List Int}(hj:e.f[j]?=some (z,l)) (x a' b':Int) (j':Nat):cv (Hv d e j l x) a' b' j'=if a'=a∧b'=b∧j'=j then l++[x] else cv d a' b' j':=by
 obtain⟨hm,ha,hb⟩:=oQ h
 have hlt:j<e.f.length:=(al.1 hj).1
 unfold cv
 show(match gF (rF d.es e.t j (d.n,l++[x])) a' b' with | some e=>_ | none=>_)=_
 rw[HB]
 by_cases hk:a'=a∧b'=b
 ·obtain⟨rfl,rfl⟩:=hk
  rw[h,bL,aI]
  simp only[cond_true,true_and]
  by_cases hjj:j'=j
  ·subst hjj
   rw[if_pos rfl,cG hlt]
  ·rw[if_neg hjj,eG (fun e=>hjj e.symm)]
 ·rw[if_neg (fun hh=>hk ⟨hh.1,hh.2.1⟩)]
  cases h2:gF d.es a' b' with
  | none=>rfl
  | some e2=>
   obtain⟨hm2,ha2,hb2⟩:=oQ h2
   rw[bL]
   have:Nat.beq e2.t e.t=false:=by
    cases hb3:Nat.beq e2.t e.t with
    | false=>rfl
    | true=>
     have:=(w.same hm2 hm (j:=0) (j':=0) rfl (by rw[mw,aa hb3])).1
     subst this
     exact absurd ⟨ha2.symm.trans ha,hb2.symm.trans hb⟩ hk
   rw[this];rfl
end Go.DN.So
