/-
  Plain laws, part A: loops over lists, appends, tests, once more.
-/
import Derived.Test.YtongekoajbcliaaGreatDoorMgB
import Derived.Test.YtongekoajbcliaaGreatDoorMgG
set_option linter.all false
namespace Go.PL
open Go.AM Go.DN
def eD{τ α e:Type}{body:τ->Option (τ⊕e)}(l:List α)(st:Nat->τ)(r:e)(a:∀k x,l[k]?=some x->body (st k)=some (.inl (st (k+1))))(b:body (st l.length)=some (.inr r))(n:Nat)(hn:l.length<n):aL body n (st 0)=some r:=by
 have d:∀(m k n:Nat),m=l.length-k->k<=l.length->m<n->aL body n (st k)=some r:=by intro m;induction m with|zero=>(intro k n f g hn;(obtain rfl:k=l.length:=by omega);cases n with|zero=>omega|succ n=>simp only[aL,b])|succ m h=>intro k n f g hn;cases n with|zero=>omega|succ n=>(have c:k<l.length:=by omega);simp only[aL,a k _ (af c)];exact h (k+1) n (by omega) (by omega) (by omega)
 exact d l.length 0 n (by omega) (by omega) hn
def xG{τ α f:Type}{body:τ->Option (τ⊕Ex Unit f)}(l:List α)(st:Nat->τ)(a:α->Option f)(b:∀k x,l[k]?=some x->body (st k)=some (match a x with|some r=>.inr (.ret r)|none=>.inl (st (k+1))))(c:body (st l.length)=some (.inr (.bL ())))(n:Nat)(hn:l.length<n):aL body n (st 0)=some (match l.findSome? a with|some r=>.ret r|none=>.bL ()):=by
 have e:∀(m k n:Nat),m=l.length-k->k<=l.length->m<n->aL body n (st k)=some (match (l.drop k).findSome? a with|some r=>.ret r|none=>.bL ()):=by intro m;induction m with|zero=>(intro k n g h hn;(obtain rfl:k=l.length:=by omega);cases n with|zero=>omega|succ n=>simp only[aL,c,jY,List.findSome?_nil])|succ m i=>intro k n g h hn;cases n with|zero=>omega|succ n=>(have d:k<l.length:=by omega);rw[cT d,dX];simp only[aL,b k _ (af d)];cases j:a l[k] with|some r=>simp only|none=>simp only;exact i (k+1) n (by omega) (by omega) (by omega)
 have:=e l.length 0 n (by omega) (by omega) hn;simpa using this
def Bi{b a:Type}(o:Option b)(inj:b->a)(k:Unit->Option a):aY inj (some (match o with|some r=>Ex.ret r|none=>Ex.bL ())) k=match o with|some r=>some (inj r)|none=>k ():=by cases o <;> rfl
def tP(x:Int):Option Int:=if x=0 then none else some x
def uP:tP 0=none:=rfl
def p6{x:Int}(h:x≠0):tP x=some x:=if_neg h
def jV{α:Type}(f:α->Int)(l:List α):Int:=(l.findSome? fun x=>tP (f x)).getD 0
def yx{α:Type}(f:α->Int)(x:α)(l:List α):jV f (x::l)=if f x=0 then jV f l else f x:=by unfold jV;rw[dX];by_cases h:f x=0;simp[h,tP];simp[h,tP]
def Eu{α:Type}(f:α->Int)(l:List α):(l.findSome? fun x=>tP (f x))=tP (jV f l):=by induction l with|nil=>rfl|cons x r a=>rw[yx,dX];by_cases h:f x=0;simp only[h,uP,if_true];exact a;simp only[p6 h,if_neg h]
def yw{α:Type}{f:α->Int}{l:List α}(h:jV f l=0):∀x∈l,f x=0:=by induction l with|nil=>intro x a;cases a|cons y r c=>intro x a;rw[yx] at h;split at h;rename_i b;rcases bh.1 a with e|a;subst e;exact b;exact c h x a;rename_i b;exact absurd h b
def b8{a b n:Nat}(h:(a+b)*n<=140737488355328)(h2:a+b<=140737488355328):ba (a+b<=maxLen/\(a+b)*n<=140737488355328)=some ():=ep ⟨by simp only[maxLen];omega,h⟩
def Wj{i:Decidable True}:@ba True i=some ():=by unfold ba;rw[if_pos trivial]
def take_succ{α:Type}{l:List α}{k:Nat}{x:α}(h:l[k]?=some x):l.take (k+1)=l.take k++[x]:=by rw[List.take_add_one,h];rfl
def ox{α:Type}{l:List α}{k:Nat}{x:α}(h:l[k]?=some x):(l.take k).length=k:=by rw[bA];have:=bO h;omega
def bne_false{a b:Int}(h:a=b):(a !=b)=false:=by simp[h]
def bne_true{a b:Int}(h:a≠b):(a !=b)=true:=by simp[h]
def en{p:Prop}[Decidable p](h:p):decide p=true:=by simp[h]
def cG{p:Prop}[Decidable p](h:¬p):decide p=false:=by simp[h]
def gL{τ g:Type}{body:τ->Option (τ⊕g)}(m:Nat)(st:Nat->τ)(a:Nat->Option g)(e:g)(b:∀k,k<m->(∀j,j<k->a j=none)->body (st k)=some (match a k with|some r=>.inr r|none=>.inl (st (k+1))))(f:(∀j,j<m->a j=none)->body (st m)=some (.inr e))(n:Nat)(hn:m<n):aL body n (st 0)=some (match (List.range m).findSome? a with|some r=>r|none=>e):=by
 have l:∀(d k n:Nat),d=m-k->k<=m->d<n->(∀j,j<k->a j=none)->aL body n (st k)=some (match (List.range m).findSome? a with|some r=>r|none=>e):=by intro d;induction d with|zero=>(intro k n s v hn c;(obtain rfl:k=m:=by omega);cases n with|zero=>omega|succ n=>have:(List.range k).findSome? a=none:=lM.2 fun x o=>c x (gH.1 o);simp only[aL,f c,this])|succ d t=>intro k n s v hn c;cases n with|zero=>omega|succ n=>(have i:k<m:=by omega);simp only[aL,b k i c];cases p:a k with|none=>simp only;exact t (k+1) n (by omega) (by omega) (by omega) fun j h=>by by_cases h2:j=k;subst h2;exact p;exact c j (by omega)|some r=>simp only;(have:(List.range m).findSome? a=some r:=by (have w:List.range m=List.range k++(List.range (m-k)).map (k + ·):=by rw[<-List.range_add];congr 1;omega);have y:(List.range k).findSome? a=none:=lM.2 fun x o=>c x (gH.1 o);obtain⟨q,u⟩:∃q,m-k=q+1:=⟨m-k-1,by omega⟩;rw[w,List.findSome?_append,y,u,List.range_succ_eq_map];simp[p]);rw[this]
 exact l m 0 n (by omega) (by omega) hn fun j h=>by omega
def oa{τ α g:Type}{body:τ->Option (τ⊕g)}(l:List α)(st:Nat->τ)(a:α->Option g)(e:g)(b:∀k x,l[k]?=some x->body (st k)=some (match a x with|some r=>.inr r|none=>.inl (st (k+1))))(c:body (st l.length)=some (.inr e))(n:Nat)(hn:l.length<n):aL body n (st 0)=some (match l.findSome? a with|some r=>r|none=>e):=by
 have f:∀(m k n:Nat),m=l.length-k->k<=l.length->m<n->aL body n (st k)=some (match (l.drop k).findSome? a with|some r=>r|none=>e):=by intro m;induction m with|zero=>(intro k n j i hn;(obtain rfl:k=l.length:=by omega);cases n with|zero=>omega|succ n=>simp only[aL,c,jY,List.findSome?_nil])|succ m h=>intro k n j i hn;cases n with|zero=>omega|succ n=>(have d:k<l.length:=by omega);rw[cT d,dX];simp only[aL,b k _ (af d)];cases o:a l[k] with|some r=>simp only|none=>simp only;exact h (k+1) n (by omega) (by omega) (by omega)
 have:=f l.length 0 n (by omega) (by omega) hn;simpa using this
def findAll{α b:Type}(p:α->Bool)(v:b)(l:List α):(l.findSome? fun x=>if p x then none else some v)=if l.all p then none else some v:=by induction l with|nil=>rfl|cons x r a=>rw[dX,List.all_cons];cases p x with|false=>rfl|true=>simpa using a
def gW{α b:Type}(p:α->Bool)(v:b)(l:List α):(l.findSome? fun x=>if p x then some v else none)=if l.any p then some v else none:=by induction l with|nil=>rfl|cons x r a=>rw[dX,ni];cases p x with|true=>rfl|false=>simpa using a
def oc{p:Nat->Bool}{m:Nat}:(List.range m).any p=false↔∀k,k<m->p k=false:=by rw[gk];constructor;intro h k a;simpa using h k (gH.2 a);intro h k a;simpa using h k (gH.1 a)
end Go.PL
