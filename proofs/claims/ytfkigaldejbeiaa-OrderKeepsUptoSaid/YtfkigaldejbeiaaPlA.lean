/-
  Plain laws, part A: loops dz lists, appends, tests, once more.
-/
import Derived.Test.YtfkigaldejbeiaaMgB
import Derived.Test.YtfkigaldejbeiaaMgG
set_option linter.unusedSectionVars false
set_option linter.unusedSimpArgs false
set_option linter.unusedVariables false
namespace Go.PL
open Go.AM Go.DN
theorem AT {τ α ρ:Type}{body:τ→Option (τ⊕ρ)}(l:List α) (st:Nat→τ) (r:ρ)
  (hbody:∀k x,l[k]?=some x→body (st k)=some (.inl (st (k+1)))) (hend:body (st l.length)=some (.inr r)) (n:Nat) (hn:l.length<n):
  aB body n (st 0)=some r:=by
 have key:∀(m k n:Nat),m=l.length-k→k≤l.length→m<n→aB body n (st k)=some r:=by
  intro m
  induction m with
  | zero=>
   intro k n hm hk hn
   obtain rfl:k=l.length:=by omega
   cases n with
   | zero=>omega
   | succ n=>simp only[aB,hend]
  | succ m ih=>
   intro k n hm hk hn
   cases n with
   | zero=>omega
   | succ n=>
    have hlt:k<l.length:=by omega
    simp only[aB,hbody k _ (ag hlt)]
    exact ih (k+1) n (by omega) (by omega) (by omega)
 exact key l.length 0 n (by omega) (by omega) hn
theorem Em {τ α γ:Type}{body:τ→Option (τ⊕Ex Unit γ)}(l:List α) (st:Nat→τ) (err:α→Option γ)
  (hbody:∀k x,l[k]?=some x→body (st k)=some (match err x with | some r=>.inr (.ret r) | none=>.inl (st (k+1)))) (hend:body (st l.length)=some (.inr (.dS ()))) (n:Nat) (hn:l.length<n):
  aB body n (st 0)=some (match l.findSome? err with | some r=>.ret r | none=>.dS ()):=by
 have key:∀(m k n:Nat),m=l.length-k→k≤l.length→m<n→aB body n (st k)=some (match (l.drop k).findSome? err with | some r=>.ret r | none=>.dS ()):=by
  intro m
  induction m with
  | zero=>
   intro k n hm hk hn
   obtain rfl:k=l.length:=by omega
   cases n with
   | zero=>omega
   | succ n=>simp only[aB,hend,np,List.findSome?_nil]
  | succ m ih=>
   intro k n hm hk hn
   cases n with
   | zero=>omega
   | succ n=>
    have hlt:k<l.length:=by omega
    rw[bV hlt,kO]
    simp only[aB,hbody k _ (ag hlt)]
    cases he:err l[k] with
    | some r=>simp only
    | none=>simp only;exact ih (k+1) n (by omega) (by omega) (by omega)
 have:=key l.length 0 n (by omega) (by omega) hn
 simpa using this
def nc (x:Int):Option Int:=if x=0 then none else some x
theorem yH:nc 0=none:=rfl
theorem A6 {x:Int}(h:x≠0):nc x=some x:=if_neg h
def fc {α:Type}(f:α→Int) (l:List α):Int:=(l.findSome? fun x=>nc (f x)).getD 0
theorem re {α:Type}(f:α→Int) (x:α) (l:List α):fc f (x::l)=if f x=0 then fc f l else f x:=by
 unfold fc
 rw[kO]
 by_cases h:f x=0
 ·simp[h,nc]
 ·simp[h,nc]
theorem Ai {α:Type}(f:α→Int) (l:List α):(l.findSome? fun x=>nc (f x))=nc (fc f l):=by
 induction l with
 | nil=>rfl
 | cons x r ih=>
  rw[re,kO]
  by_cases h:f x=0
  ·simp only[h,yH,if_true];exact ih
  ·simp only[A6 h,if_neg h]
theorem l9 {α:Type}{f:α→Int}{l:List α}(h:fc f l=0):∀x∈l,f x=0:=by
 induction l with
 | nil=>intro x hx;cases hx
 | cons y r ih=>
  intro x hx
  rw[re] at h
  split at h
  ·rename_i h0
   rcases aX.1 hx with e | hx
   ·subst e;exact h0
   ·exact ih h x hx
  ·rename_i h0;exact absurd h h0
theorem KO {i:Decidable True}:@bq True i=some ():=by unfold bq;rw[if_pos trivial]
theorem take_succ {α:Type}{l:List α}{k:Nat}{x:α}(h:l[k]?=some x):l.take (k+1)=l.take k++[x]:=by
 rw[kw,h];rfl
theorem bne_false {a b:Int}(h:a=b):(a !=b)=false:=by simp[h]
theorem bne_true {a b:Int}(h:a≠b):(a !=b)=true:=by simp[h]
theorem dl {p:Prop}[Decidable p] (h:p):decide p=true:=by simp[h]
theorem cw {p:Prop}[Decidable p] (h:¬p):decide p=false:=by simp[h]
end Go.PL
