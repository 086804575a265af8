/-
  Plain laws, part A: loops dm lists, appends, tests, once more.
-/
import Derived.Test.YtfkigaldejbeiaaMgB
import Derived.Test.YtfkigaldejbeiaaMgG
set_option linter.unusedSimpArgs false
set_option linter.unusedVariables false
namespace Go.PL
open Go.AM Go.DN
theorem tU {τ α ρ:Type}{body:τ→Option (τ⊕ρ)}(l:List α) (st:Nat→τ) (r:ρ)
  (hbody:∀k x,l[k]?=some x→body (st k)=some (.inl (st (k+1)))) (hend:body (st l.length)=some (.inr r)) (n:Nat) (hn:l.length<n):
  aB body n (st 0)=some r:=by
 have key:∀(m k n:Nat),m=l.length-k→k≤l.length→m<n→aB body n (st k)=some r:=by
  intro m
  induction m with
  | zero=>
   intro k n hm hk hn
   obtain rfl:k=l.length:=by omega
   cases n with
   | zero=>omega
   | succ n=>simp only[aB,hend]
  | succ m ih=>
   intro k n hm hk hn
   cases n with
   | zero=>omega
   | succ n=>
    have hlt:k<l.length:=by omega
    simp only[aB,hbody k _ (ag hlt)]
    exact ih (k+1) n (by omega) (by omega) (by omega)
 exact key l.length 0 n (by omega) (by omega) hn
theorem E5 {τ α γ:Type}{body:τ→Option (τ⊕Ex Unit γ)}(l:List α) (st:Nat→τ) (err:α→Option γ)
  (hbody:∀k x,l[k]?=some x→body (st k)=some (match err x with | some r=>.inr (.ret r) | none=>.inl (st (k+1)))) (hend:body (st l.length)=some (.inr (.dW ()))) (n:Nat) (hn:l.length<n):
  aB body n (st 0)=some (match l.findSome? err with | some r=>.ret r | none=>.dW ()):=by
 have key:∀(m k n:Nat),m=l.length-k→k≤l.length→m<n→aB body n (st k)=some (match (l.drop k).findSome? err with | some r=>.ret r | none=>.dW ()):=by
  intro m
  induction m with
  | zero=>
   intro k n hm hk hn
   obtain rfl:k=l.length:=by omega
   cases n with
   | zero=>omega
   | succ n=>simp only[aB,hend,nB,List.findSome?_nil]
  | succ m ih=>
   intro k n hm hk hn
   cases n with
   | zero=>omega
   | succ n=>
    have hlt:k<l.length:=by omega
    rw[bY hlt,kT]
    simp only[aB,hbody k _ (ag hlt)]
    cases he:err l[k] with
    | some r=>simp only
    | none=>simp only;exact ih (k+1) n (by omega) (by omega) (by omega)
 have:=key l.length 0 n (by omega) (by omega) hn
 simpa using this
def np (x:Int):Option Int:=if x=0 then none else some x
theorem zu:np 0=none:=rfl
theorem BR {x:Int}(h:x≠0):np x=some x:=if_neg h
def fj {α:Type}(f:α→Int) (l:List α):Int:=(l.findSome? fun x=>np (f x)).getD 0
theorem rI {α:Type}(f:α→Int) (x:α) (l:List α):fj f (x::l)=if f x=0 then fj f l else f x:=by
 unfold fj
 rw[kT]
 by_cases h:f x=0
 ·simp[h,np]
 ·simp[h,np]
theorem AX {α:Type}(f:α→Int) (l:List α):(l.findSome? fun x=>np (f x))=np (fj f l):=by
 induction l with
 | nil=>rfl
 | cons x r ih=>
  rw[rI,kT]
  by_cases h:f x=0
  ·simp only[h,zu,if_true];exact ih
  ·simp only[BR h,if_neg h]
theorem mo {α:Type}{f:α→Int}{l:List α}(h:fj f l=0):∀x∈l,f x=0:=by
 induction l with
 | nil=>intro x hx;cases hx
 | cons y r ih=>
  intro x hx
  rw[rI] at h
  split at h
  ·rename_i h0
   rcases aZ.1 hx with e | hx
   ·subst e;exact h0
   ·exact ih h x hx
  ·rename_i h0;exact absurd h h0
theorem Ka {a b n:Nat}(h:(a+b)*n≤140737488355328) (h2:a+b≤140737488355328):bo (a+b≤maxLen∧(a+b)*n≤140737488355328)=some ():=
 bJ ⟨by simp only[maxLen];omega,h⟩
theorem LH {i:Decidable True}:@bo True i=some ():=by unfold bo;rw[if_pos trivial]
theorem take_succ {α:Type}{l:List α}{k:Nat}{x:α}(h:l[k]?=some x):l.take (k+1)=l.take k++[x]:=by
 rw[kC,h];rfl
theorem bne_false {a b:Int}(h:a=b):(a !=b)=false:=by simp[h]
theorem bne_true {a b:Int}(h:a≠b):(a !=b)=true:=by simp[h]
theorem du {p:Prop}[Decidable p] (h:p):decide p=true:=by simp[h]
theorem cA {p:Prop}[Decidable p] (h:¬p):decide p=false:=by simp[h]
end Go.PL
