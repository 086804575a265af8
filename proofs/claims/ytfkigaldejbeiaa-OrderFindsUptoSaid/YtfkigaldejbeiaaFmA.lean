/-
  Orders: the plain law of OrderFinds: the map's data: who puts, adds, gets where.
-/
import Derived.Test.YtfkigaldejbeiaaFvQ
set_option linter.unusedSectionVars false
set_option linter.unusedSimpArgs false
set_option linter.unusedVariables false
namespace Go.DN.So
open Go.AM Go.DN
theorem mem_at {α:Type}{l:List α}{x:α}(h:x∈l):∃i:Nat,l[i]?=some x:=List.getElem?_of_mem h
theorem at_mem {α:Type}{l:List α}{i:Nat}{x:α}(h:l[i]?=some x):x∈l:=List.mem_of_getElem? h
def kidE (e:MEnt):Nat→Option Nat
 | 0=>some e.t
 | j+1=>match e.f[j]? with
  | some (z,_::_)=>some z
  | _=>none
theorem kidE_of {e:MEnt}{j z:Nat}{l:List Int}(h:e.f[j]?=some (z,l)) (hl:l≠[]):kidE e (j+1)=some z:=by
 cases l with
 | nil=>exact absurd rfl hl
 | cons a r=>simp only[kidE,h]
theorem kidE_some {e:MEnt}{j x:Nat}(h:kidE e (j+1)=some x):∃l,l≠[]∧e.f[j]?=some (x,l):=by
 simp only[kidE] at h
 split at h
 ·rename_i z a r hf
  cases h
  exact⟨_,by simp,hf⟩
 ·cases h
structure WM (d:MDat):Prop where
 len:∀e∈d.es,e.f.length=3
 inj:∀(i i' j j' x:Nat) (e e':MEnt),d.es[i]?=some e→d.es[i']?=some e'→kidE e j=some x→kidE e' j'=some x→i=i'∧j=j'
 lt:∀e∈d.es,∀(j x:Nat),kidE e j=some x→x<d.n
 nil:∀e∈d.es,∀(j z:Nat),e.f[j]?=some (z,[])→z=bigI
 pd:d.pd=none
def rowsM (d:MDat) (a b:Int) (j:Nat):List Int:=match mget d.es a b with
 | some e=>match e.f[j]? with
  | some p=>p.2
  | none=>[]
 | none=>[]
theorem mget_mem {a b:Int}{e:MEnt}:∀{es:List MEnt},mget es a b=some e→e∈es∧e.a=a∧e.b=b
 | [],h=>by cases h
 | x::r,h=>by
  simp only[mget] at h
  cases hb:(decide (a=x.a)&&decide (b=x.b)) with
  | true=>
   rw[hb] at h;cases h
   simp only[Bool.and_eq_true,decide_eq_true_eq] at hb
   exact⟨List.mem_cons_self,hb.1.symm,hb.2.symm⟩
  | false=>rw[hb] at h;obtain⟨h1,h2⟩:=mget_mem h;exact⟨List.mem_cons_of_mem _ h1,h2⟩
theorem mget_app {a b:Int}(l:List MEnt):∀{es:List MEnt},mget (es++l) a b=match mget es a b with | some e=>some e | none=>mget l a b
 | []=>rfl
 | x::r=>by
  simp only[List.cons_append,mget]
  cases hb:(decide (a=x.a)&&decide (b=x.b)) with
  | true=>rfl
  | false=>exact mget_app l
theorem mtgt_some {t:Nat}{e:MEnt}:∀{es:List MEnt},mtgt es t=some e→e∈es∧e.t=t
 | [],h=>by cases h
 | x::r,h=>by
  simp only[mtgt] at h
  cases hb:Nat.beq x.t t with
  | true=>rw[hb] at h;cases h;exact⟨List.mem_cons_self,Nat.eq_of_beq_eq_true hb⟩
  | false=>rw[hb] at h;obtain⟨h1,h2⟩:=mtgt_some h;exact⟨List.mem_cons_of_mem _ h1,h2⟩
theorem mtgt_has {e:MEnt}:∀{es:List MEnt},e∈es→∃e',mtgt es e.t=some e'
 | x::r,h=>by
  simp only[mtgt]
  cases hb:Nat.beq x.t e.t with
  | true=>exact⟨x,rfl⟩
  | false=>
   rcases List.mem_cons.1 h with h | h
   ·subst h;rw[Nat.beq_refl] at hb;cases hb
   ·exact mtgt_has h
theorem WM.same {d:MDat}(w:WM d){e e':MEnt}(h:e∈d.es) (h':e'∈d.es){j j' x:Nat}(k:kidE e j=some x) (k':kidE e' j'=some x):e=e'∧j=j':=by
 obtain⟨i,hi⟩:=mem_at h
 obtain⟨i',hi'⟩:=mem_at h'
 obtain⟨a,b⟩:=w.inj i i' j j' x e e' hi hi' k k'
 subst a
 rw[hi] at hi'
 exact⟨by cases hi';rfl,b⟩
theorem WM.tgt {d:MDat}(w:WM d){e:MEnt}(h:e∈d.es):mtgt d.es e.t=some e:=by
 obtain⟨e',he⟩:=mtgt_has h
 obtain⟨h1,h2⟩:=mtgt_some he
 rw[he,(w.same h h1 (j:=0) (j':=0) rfl (by rw[kidE,h2])).1]
theorem WM.fld {d:MDat}(w:WM d){e:MEnt}(h:e∈d.es) (j:Nat):mfld d.es e.t j=e.f[j]?:=by
 unfold mfld;rw[w.tgt h];rfl
theorem mrowF_some {z:Nat}{l:List Int}:∀{f:List (Nat×List Int)},mrowF z f=some l→l≠[]∧∃j:Nat,f[j]?=some (z,l)
 | [],h=>by cases h
 | (x,[])::r,h=>by
  obtain⟨h1,j,h2⟩:=mrowF_some (f:=r) h
  exact⟨h1,j+1,h2⟩
 | (x,a::l')::r,h=>by
  simp only[mrowF] at h
  cases hb:Nat.beq x z with
  | true=>
   rw[hb] at h;cases h
   rw[Nat.eq_of_beq_eq_true hb]
   exact⟨by simp,0,rfl⟩
  | false=>rw[hb] at h;obtain⟨h1,j,h2⟩:=mrowF_some (f:=r) h;exact⟨h1,j+1,h2⟩
theorem mrow_some {z:Nat}{l:List Int}:∀{es:List MEnt},mrow z es=some l→l≠[]∧∃e∈es,∃j:Nat,e.f[j]?=some (z,l)
 | [],h=>by cases h
 | e::r,h=>by
  simp only[mrow] at h
  cases hf:mrowF z e.f with
  | some l'=>rw[hf] at h;cases h;obtain⟨h1,j,h2⟩:=mrowF_some hf;exact⟨h1,e,List.mem_cons_self,j,h2⟩
  | none=>rw[hf] at h;obtain⟨h1,e',h2,h3⟩:=mrow_some (es:=r) h;exact⟨h1,e',List.mem_cons_of_mem _ h2,h3⟩
theorem mrowF_has {z:Nat}{l:List Int}(hl:l≠[]):∀{f:List (Nat×List Int)}{j:Nat},f[j]?=some (z,l)→∃l',mrowF z f=some l'
 | [],j,h=>by simp at h
 | (x,[])::r,0,h=>by simp at h;exact absurd h.2 hl
 | (x,[])::r,j+1,h=>mrowF_has hl (f:=r) (j:=j) (by simpa using h)
 | (x,a::l')::r,j,h=>by
  simp only[mrowF]
  cases hb:Nat.beq x z with
  | true=>exact⟨_,rfl⟩
  | false=>
   cases j with
   | zero=>simp at h;rw[h.1,Nat.beq_refl] at hb;cases hb
   | succ j=>exact mrowF_has hl (f:=r) (j:=j) (by simpa using h)
theorem mrow_has {z:Nat}{l:List Int}(hl:l≠[]){e:MEnt}{j:Nat}(hj:e.f[j]?=some (z,l)):∀{es:List MEnt},e∈es→∃l',mrow z es=some l'
 | x::r,h=>by
  simp only[mrow]
  cases hf:mrowF z x.f with
  | some l'=>exact⟨l',rfl⟩
  | none=>
   rcases List.mem_cons.1 h with h | h
   ·subst h
    obtain⟨l',h1⟩:=mrowF_has hl hj
    rw[hf] at h1;cases h1
   ·exact mrow_has hl hj h
theorem WM.row {d:MDat}(w:WM d){e:MEnt}(h:e∈d.es){j z:Nat}{l:List Int}(hj:e.f[j]?=some (z,l)) (hl:l≠[]):mrow z d.es=some l:=by
 obtain⟨l',h1⟩:=mrow_has hl hj h
 obtain⟨h2,e',h3,j',h4⟩:=mrow_some h1
 obtain⟨a,b⟩:=w.same h h3 (kidE_of hj hl) (kidE_of h4 h2)
 subst a
 have:j=j':=by omega
 subst this
 rw[hj] at h4
 cases h4
 exact h1
theorem WM.cell {d:MDat}(w:WM d){e:MEnt}(h:e∈d.es){j z i:Nat}{l:List Int}{x:Int}(hj:e.f[j]?=some (z,l)) (hx:l[i]?=some x):mcell d.es z i=some x:=by
 unfold mcell
 rw[w.row h hj (fun e=>by subst e;simp at hx)]
 exact hx
theorem kidE_new (a b:Int) (t j x:Nat) (h:kidE ⟨a,b,t,List.replicate 3 (bigI,[])⟩ j=some x):j=0∧x=t:=by
 match j,h with
 | 0,h=>cases h;exact⟨rfl,rfl⟩
 | 1,h=>cases h
 | 2,h=>cases h
 | 3,h=>cases h
 | j+4,h=>simp[kidE] at h
theorem snoc_at {α:Type}{l:List α}{y x:α}{i:Nat}(h:(l++[y])[i]?=some x):l[i]?=some x∨(i=l.length∧x=y):=by
 rw[List.getElem?_append] at h
 split at h
 ·exact .inl h
 ·rename_i hlt
  have h0:i-l.length=0:=by
   have:=(List.getElem?_eq_some_iff.1 h).1
   simp at this
   omega
  rw[h0] at h
  cases h
  exact .inr ⟨by omega,rfl⟩
theorem WM.put {d:MDat}(w:WM d) (a b:Int):WM (mput d a b 3):=by
 refine {len:=fun e he=>?_,inj:=fun i i' j j' x e e' h1 h2 h3 h4=>?_,lt:=fun e he j x h=>?_,nil:=fun e he j z h=>?_,pd:=w.pd}
 ·rcases List.mem_append.1 he with he | he
  ·exact w.len e he
  ·rw[List.mem_singleton.1 he];rfl
 ·rcases snoc_at h1 with h1 | ⟨e1,q1⟩ <;> rcases snoc_at h2 with h2 | ⟨e2,q2⟩
  ·exact w.inj i i' j j' x e e' h1 h2 h3 h4
  ·subst q2
   obtain⟨_,hx⟩:=kidE_new _ _ _ _ _ h4
   have:=w.lt e (at_mem h1) j x h3
   omega
  ·subst q1
   obtain⟨_,hx⟩:=kidE_new _ _ _ _ _ h3
   have:=w.lt e' (at_mem h2) j' x h4
   omega
  ·subst q1;subst q2
   exact⟨by omega,by rw[(kidE_new _ _ _ _ _ h3).1,(kidE_new _ _ _ _ _ h4).1]⟩
 ·rcases List.mem_append.1 he with he | he
  ·exact Nat.lt_succ_of_lt (w.lt e he j x h)
  ·rw[List.mem_singleton.1 he] at h
   rw[(kidE_new _ _ _ _ _ h).2]
   exact Nat.lt_succ_self _
 ·rcases List.mem_append.1 he with he | he
  ·exact w.nil e he j z h
  ·rw[List.mem_singleton.1 he] at h
   have h:(List.replicate 3 ((bigI,[]):Nat×List Int))[j]?=some (z,[]):=h
   have:=List.eq_of_mem_replicate (at_mem h)
   cases this;rfl
theorem rows_put {d:MDat}{a b:Int}(hno:mget d.es a b=none) (a' b':Int) (j:Nat):rowsM (mput d a b 3) a' b' j=rowsM d a' b' j:=by
 unfold rowsM
 show(match mget (d.es++[⟨a,b,d.n,List.replicate 3 (bigI,[])⟩]) a' b' with | some e=>_ | none=>_)=_
 rw[mget_app]
 cases h:mget d.es a' b' with
 | some e=>rfl
 | none=>
  dsimp only
  simp only[mget]
  cases (decide (a'=a)&&decide (b'=b)) with
  | false=>rfl
  | true=>
   simp only[cond_true]
   match j with
   | 0=>rfl
   | 1=>rfl
   | 2=>rfl
   | j+3=>rfl
theorem msrcF_some {z k:Nat}:∀{f:List (Nat×List Int)}{s:Nat},msrcF z f s=some k→∃j l,k=s+j∧f[j]?=some (z,l)
 | [],s,h=>by cases h
 | (x,l)::r,s,h=>by
  simp only[msrcF] at h
  cases hb:Nat.beq x z with
  | true=>rw[hb] at h;cases h;rw[Nat.eq_of_beq_eq_true hb];exact⟨0,l,rfl,rfl⟩
  | false=>rw[hb] at h;obtain⟨j,l',h1,h2⟩:=msrcF_some h;exact⟨j+1,l',by omega,h2⟩
theorem msrc_some {z:Nat}{p:Nat×Nat}:∀{es:List MEnt},msrc z es=some p→∃e∈es,∃l,p.1=e.t∧e.f[p.2]?=some (z,l)
 | [],h=>by cases h
 | e::r,h=>by
  simp only[msrc] at h
  cases hf:msrcF z e.f 0 with
  | some j=>
   rw[hf] at h;cases h
   obtain⟨j',l,h1,h2⟩:=msrcF_some hf
   exact⟨e,List.mem_cons_self,l,rfl,by rw[show(e.t,j).2=j' by show j=j';omega];exact h2⟩
  | none=>rw[hf] at h;obtain⟨e',h1,h2⟩:=msrc_some (es:=r) h;exact⟨e',List.mem_cons_of_mem _ h1,h2⟩
theorem msrcF_has {z:Nat}{l:List Int}:∀{f:List (Nat×List Int)}{j s:Nat},f[j]?=some (z,l)→∃k,msrcF z f s=some k
 | [],j,s,h=>by simp at h
 | (x,l')::r,j,s,h=>by
  simp only[msrcF]
  cases hb:Nat.beq x z with
  | true=>exact⟨s,rfl⟩
  | false=>
   cases j with
   | zero=>simp at h;rw[h.1,Nat.beq_refl] at hb;cases hb
   | succ j=>exact msrcF_has (f:=r) (j:=j) (by simpa using h)
theorem msrc_has {z:Nat}{l:List Int}{e:MEnt}{j:Nat}(hj:e.f[j]?=some (z,l)):∀{es:List MEnt},e∈es→∃p,msrc z es=some p
 | x::r,h=>by
  simp only[msrc]
  cases hf:msrcF z x.f 0 with
  | some j=>exact⟨_,rfl⟩
  | none=>
   rcases List.mem_cons.1 h with h | h
   ·subst h
    obtain⟨k,h1⟩:=msrcF_has (s:=0) hj
    rw[hf] at h1;cases h1
   ·exact msrc_has hj h
theorem WM.src {d:MDat}(w:WM d) (hn:d.n≤100000){e:MEnt}(h:e∈d.es){j z:Nat}{l:List Int}(hj:e.f[j]?=some (z,l)) (hl:l≠[]):msrc z d.es=some (e.t,j):=by
 obtain⟨p,h1⟩:=msrc_has hj h
 obtain⟨e',h2,l',h3,h4⟩:=msrc_some h1
 have hz:=w.lt e h (j+1) z (kidE_of hj hl)
 have hl':l'≠[]:=fun e0=>by
  subst e0
  have:=w.nil e' h2 p.2 z h4
  rw[this] at hz
  have:bigI=2^63:=rfl
  omega
 obtain⟨a,b⟩:=w.same h h2 (kidE_of hj hl) (kidE_of h4 hl')
 subst a
 obtain⟨p1,p2⟩:=p
 simp only at h3 b
 have:p2=j:=by omega
 rw[h1,h3,this]
def mupd (d:MDat) (e:MEnt) (j:Nat) (l:List Int) (x:Int):MDat:=⟨d.n+1,msetF d.es e.t j (d.n,l++[x]),none⟩
theorem WM.app {d:MDat}(w:WM d) (hn:d.n≤100000){e:MEnt}(h:e∈d.es){j z:Nat}{l:List Int}(hj:e.f[j]?=some (z,l)) (hl:l.length≤100000) (x:Int):
  ∃d1,mapp d z l.length x 8=some d1∧mstore d1 e.t j d.n (l.length+1)=some (mupd d e j l x):=by
 have hlen:=w.len e h
 have hj3:j<e.f.length:=(List.getElem?_eq_some_iff.1 hj).1
 have hc:chk (d.pd.isNone=true∧d.n+1≤maxLen∧l.length+1≤maxLen∧(l.length+1)*8≤140737488355328)=some ():=chk_pos ⟨by rw[w.pd];rfl,by simp only[maxLen];omega,by simp only[maxLen];omega,by omega⟩
 by_cases h0:l=[]
 ·subst h0
  have hz:=w.nil e h j z hj
  refine⟨⟨d.n+1,d.es,some (none,d.n,[x])⟩,?_,?_⟩
  ·have hc:chk (d.pd.isNone=true∧d.n+1≤maxLen∧0+1≤maxLen∧(0+1)*8≤140737488355328)=some ():=hc
   show(chk (d.pd.isNone=true∧d.n+1≤maxLen∧0+1≤maxLen∧(0+1)*8≤140737488355328)).bind _=_
   rw[hc,Option.bind_some]
   show(chk (z=bigI)).bind _=_
   rw[chk_pos hz];rfl
  ·unfold mstore
   dsimp only
   rw[chk_pos (by exact⟨rfl,rfl,.inl rfl⟩),Option.bind_some,w.tgt h,Option.bind_some,chk_pos hj3]
   rfl
 ·obtain⟨a,r,rfl⟩:∃a r,l=a::r:=by
   cases l with
   | nil=>exact absurd rfl h0
   | cons a r=>exact⟨a,r,rfl⟩
  refine⟨⟨d.n+1,d.es,some (some (e.t,j),d.n,(a::r)++[x])⟩,?_,?_⟩
  ·unfold mapp
   rw[hc,Option.bind_some]
   show(msrc z d.es).bind _=_
   rw[w.src hn h hj h0,Option.bind_some]
   show(mfld d.es e.t j).bind _=_
   rw[w.fld h,hj,Option.bind_some]
   show(chk (z=z∧(a::r).length=r.length+1)).bind _=_
   rw[chk_pos ⟨rfl,rfl⟩];rfl
  ·unfold mstore
   dsimp only
   rw[chk_pos (by exact⟨rfl,by simp,.inr rfl⟩),Option.bind_some,w.tgt h,Option.bind_some,chk_pos hj3]
   rfl
theorem msetF_get {es:List MEnt}{t j i:Nat}{p:Nat×List Int}{e':MEnt}(h:(msetF es t j p)[i]?=some e'):∃e,es[i]?=some e∧((e.t=t∧e'={e with f:=e.f.set j p})∨(e.t≠t∧e'=e)):=by
 unfold msetF at h
 rw[List.getElem?_map] at h
 obtain⟨e,h1,rfl⟩:=Option.map_eq_some_iff.1 h
 refine⟨e,h1,?_⟩
 cases hb:Nat.beq e.t t with
 | true=>exact .inl ⟨Nat.eq_of_beq_eq_true hb,rfl⟩
 | false=>exact .inr ⟨(fun e'=>by rw[e',Nat.beq_refl] at hb;cases hb),rfl⟩
theorem kidE_set {e:MEnt}{j n j' x:Nat}{l:List Int}(hl:l≠[]) (hj:j<e.f.length) (h:kidE {e with f:=e.f.set j (n,l)} j'=some x):(j'=j+1∧x=n)∨(j'≠j+1∧kidE e j'=some x):=by
 cases j' with
 | zero=>exact .inr ⟨by omega,h⟩
 | succ k=>
  by_cases hk:k=j
  ·subst hk
   obtain⟨l',h1,h2⟩:=kidE_some h
   have h2:(e.f.set k (n,l))[k]?=some (x,l'):=h2
   rw[List.getElem?_set_self hj] at h2
   cases h2
   exact .inl ⟨rfl,rfl⟩
  ·refine .inr ⟨by omega,?_⟩
   obtain⟨l',h1,h2⟩:=kidE_some h
   have h2:(e.f.set j (n,l))[k]?=some (x,l'):=h2
   rw[List.getElem?_set_ne (fun e=>hk e.symm)] at h2
   exact kidE_of h2 h1
theorem WM.upd {d:MDat}(w:WM d){e:MEnt}(h:e∈d.es){j:Nat}(hj:j<3) (l:List Int) (x:Int):WM (mupd d e j l x):=by
 have hlx:l++[x]≠[]:=by simp
 have hje:∀e1∈d.es,j<e1.f.length:=fun e1 h1=>by rw[w.len e1 h1];exact hj
 have old:∀{i:Nat}{e':MEnt},(mupd d e j l x).es[i]?=some e'→∃e1,d.es[i]?=some e1∧e1∈d.es∧((e1=e∧e'={e with f:=e.f.set j (d.n,l++[x])})∨(e1.t≠e.t∧e'=e1)):=by
  intro i e' h1
  obtain⟨e1,h2,h3⟩:=msetF_get h1
  refine⟨e1,h2,at_mem h2,?_⟩
  rcases h3 with ⟨h3,h4⟩ | h3
  ·have:=(w.same (at_mem h2) h (j:=0) (j':=0) rfl (by rw[kidE,h3])).1
   subst this
   exact .inl ⟨rfl,h4⟩
  ·exact .inr h3
 have kid:∀{i:Nat}{e':MEnt}{j' y:Nat},(mupd d e j l x).es[i]?=some e'→kidE e' j'=some y→∃e1,d.es[i]?=some e1∧((e1=e∧j'=j+1∧y=d.n)∨(kidE e1 j'=some y)):=by
  intro i e' j' y h1 h2
  obtain⟨e1,h3,h4,h5⟩:=old h1
  refine⟨e1,h3,?_⟩
  rcases h5 with ⟨rfl,rfl⟩ | ⟨_,rfl⟩
  ·rcases kidE_set hlx (hje _ h4) h2 with ⟨a,b⟩ | ⟨_,b⟩
   ·exact .inl ⟨rfl,a,b⟩
   ·exact .inr b
  ·exact .inr h2
 refine {len:=fun e' he=>?_,inj:=fun i i' j1 j2 y e1 e2 h1 h2 h3 h4=>?_,lt:=fun e' he j' y h1=>?_,nil:=fun e' he j' z h1=>?_,pd:=rfl}
 ·obtain⟨i,hi⟩:=mem_at he
  obtain⟨e1,_,h4,h5⟩:=old hi
  rcases h5 with ⟨rfl,rfl⟩ | ⟨_,rfl⟩
  ·show(e1.f.set j _).length=3
   rw[List.length_set];exact w.len _ h4
  ·exact w.len _ h4
 ·obtain⟨a1,p1,q1⟩:=kid h1 h3
  obtain⟨a2,p2,q2⟩:=kid h2 h4
  rcases q1 with ⟨r1,r2,r3⟩ | r1 <;> rcases q2 with ⟨s1,s2,s3⟩ | s1
  ·rw[r1] at p1;rw[s1] at p2
   exact⟨(w.inj i i' 0 0 e.t e e p1 p2 rfl rfl).1,by omega⟩
  ·have:=w.lt a2 (at_mem p2) j2 y s1
   omega
  ·have:=w.lt a1 (at_mem p1) j1 y r1
   omega
  ·exact w.inj i i' j1 j2 y a1 a2 p1 p2 r1 s1
 ·obtain⟨i,hi⟩:=mem_at he
  obtain⟨a1,p1,q1⟩:=kid hi h1
  show y<d.n+1
  rcases q1 with ⟨_,_,r3⟩ | r1
  ·omega
  ·have:=w.lt a1 (at_mem p1) j' y r1
   omega
 ·obtain⟨i,hi⟩:=mem_at he
  obtain⟨e1,_,h4,h5⟩:=old hi
  rcases h5 with ⟨rfl,rfl⟩ | ⟨_,rfl⟩
  ·have h1:(e1.f.set j (d.n,l++[x]))[j']?=some (z,[]):=h1
   by_cases hk:j'=j
   ·subst hk
    rw[List.getElem?_set_self (hje _ h4)] at h1
    simp at h1
   ·rw[List.getElem?_set_ne (fun e=>hk e.symm)] at h1
    exact w.nil _ h4 j' z h1
  ·exact w.nil _ h4 j' z h1
theorem mget_set {t j:Nat}{p:Nat×List Int}(a b:Int):∀es:List MEnt,mget (msetF es t j p) a b=(mget es a b).map fun e=>bif Nat.beq e.t t then {e with f:=e.f.set j p} else e
 | []=>rfl
 | e::r=>by
  have ih:=mget_set (t:=t) (j:=j) (p:=p) a b r
  simp only[msetF,List.map_cons,mget] at ih⊢
  have h1:(bif Nat.beq e.t t then {e with f:=e.f.set j p} else e:MEnt).a=e.a:=by cases Nat.beq e.t t <;> rfl
  have h2:(bif Nat.beq e.t t then {e with f:=e.f.set j p} else e:MEnt).b=e.b:=by cases Nat.beq e.t t <;> rfl
  rw[h1,h2]
  cases (decide (a=e.a)&&decide (b=e.b)) with
  | true=>rfl
  | false=>exact ih
theorem rows_upd {d:MDat}(w:WM d){a b:Int}{e:MEnt}(h:mget d.es a b=some e){j z:Nat}{l:List Int}(hj:e.f[j]?=some (z,l)) (x a' b':Int) (j':Nat):rowsM (mupd d e j l x) a' b' j'=if a'=a∧b'=b∧j'=j then l++[x] else rowsM d a' b' j':=by
 obtain⟨hm,ha,hb⟩:=mget_mem h
 have hlt:j<e.f.length:=(List.getElem?_eq_some_iff.1 hj).1
 unfold rowsM
 show(match mget (msetF d.es e.t j (d.n,l++[x])) a' b' with | some e=>_ | none=>_)=_
 rw[mget_set]
 by_cases hk:a'=a∧b'=b
 ·obtain⟨rfl,rfl⟩:=hk
  rw[h,Option.map_some,Nat.beq_refl]
  simp only[cond_true,true_and]
  by_cases hjj:j'=j
  ·subst hjj
   rw[if_pos rfl,List.getElem?_set_self hlt]
  ·rw[if_neg hjj,List.getElem?_set_ne (fun e=>hjj e.symm)]
 ·rw[if_neg (fun hh=>hk ⟨hh.1,hh.2.1⟩)]
  cases h2:mget d.es a' b' with
  | none=>rfl
  | some e2=>
   obtain⟨hm2,ha2,hb2⟩:=mget_mem h2
   rw[Option.map_some]
   have:Nat.beq e2.t e.t=false:=by
    cases hb3:Nat.beq e2.t e.t with
    | false=>rfl
    | true=>
     have:=(w.same hm2 hm (j:=0) (j':=0) rfl (by rw[kidE,Nat.eq_of_beq_eq_true hb3])).1
     subst this
     exact absurd ⟨ha2.symm.trans ha,hb2.symm.trans hb⟩ hk
   rw[this];rfl
end Go.DN.So
