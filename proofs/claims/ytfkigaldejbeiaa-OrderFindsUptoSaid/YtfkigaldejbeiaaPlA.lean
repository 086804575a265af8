/-
  Plain laws, part A: loops over lists, appends, tests, once more.
-/
import Derived.Test.YtfkigaldejbeiaaMgB
import Derived.Test.YtfkigaldejbeiaaMgG
set_option linter.unusedSectionVars false
set_option linter.unusedSimpArgs false
set_option linter.unusedVariables false
namespace Go.PL
open Go.AM Go.DN
theorem loop_acc {τ α ρ:Type}{body:τ→Option (τ⊕ρ)}(l:List α) (st:Nat→τ) (r:ρ)
  (hbody:∀k x,l[k]?=some x→body (st k)=some (.inl (st (k+1)))) (hend:body (st l.length)=some (.inr r)) (n:Nat) (hn:l.length<n):
  loopF body n (st 0)=some r:=by
 have key:∀(m k n:Nat),m=l.length-k→k≤l.length→m<n→loopF body n (st k)=some r:=by
  intro m
  induction m with
  | zero=>
   intro k n hm hk hn
   obtain rfl:k=l.length:=by omega
   cases n with
   | zero=>omega
   | succ n=>simp only[loopF,hend]
  | succ m ih=>
   intro k n hm hk hn
   cases n with
   | zero=>omega
   | succ n=>
    have hlt:k<l.length:=by omega
    simp only[loopF,hbody k _ (List.getElem?_eq_getElem hlt)]
    exact ih (k+1) n (by omega) (by omega) (by omega)
 exact key l.length 0 n (by omega) (by omega) hn
theorem loop_find {τ α γ:Type}{body:τ→Option (τ⊕Ex Unit γ)}(l:List α) (st:Nat→τ) (err:α→Option γ)
  (hbody:∀k x,l[k]?=some x→body (st k)=some (match err x with | some r=>.inr (.ret r) | none=>.inl (st (k+1)))) (hend:body (st l.length)=some (.inr (.brk ()))) (n:Nat) (hn:l.length<n):
  loopF body n (st 0)=some (match l.findSome? err with | some r=>.ret r | none=>.brk ()):=by
 have key:∀(m k n:Nat),m=l.length-k→k≤l.length→m<n→loopF body n (st k)=some (match (l.drop k).findSome? err with | some r=>.ret r | none=>.brk ()):=by
  intro m
  induction m with
  | zero=>
   intro k n hm hk hn
   obtain rfl:k=l.length:=by omega
   cases n with
   | zero=>omega
   | succ n=>simp only[loopF,hend,List.drop_length,List.findSome?_nil]
  | succ m ih=>
   intro k n hm hk hn
   cases n with
   | zero=>omega
   | succ n=>
    have hlt:k<l.length:=by omega
    rw[List.drop_eq_getElem_cons hlt,List.findSome?_cons]
    simp only[loopF,hbody k _ (List.getElem?_eq_getElem hlt)]
    cases he:err l[k] with
    | some r=>simp only
    | none=>simp only;exact ih (k+1) n (by omega) (by omega) (by omega)
 have:=key l.length 0 n (by omega) (by omega) hn
 simpa using this
def errI (x:Int):Option Int:=if x=0 then none else some x
theorem errI_zero:errI 0=none:=rfl
theorem errI_pos {x:Int}(h:x≠0):errI x=some x:=if_neg h
def firstW {α:Type}(f:α→Int) (l:List α):Int:=(l.findSome? fun x=>errI (f x)).getD 0
theorem firstW_cons {α:Type}(f:α→Int) (x:α) (l:List α):firstW f (x::l)=if f x=0 then firstW f l else f x:=by
 unfold firstW
 rw[List.findSome?_cons]
 by_cases h:f x=0
 ·simp[h,errI]
 ·simp[h,errI]
theorem firstW_find {α:Type}(f:α→Int) (l:List α):(l.findSome? fun x=>errI (f x))=errI (firstW f l):=by
 induction l with
 | nil=>rfl
 | cons x r ih=>
  rw[firstW_cons,List.findSome?_cons]
  by_cases h:f x=0
  ·simp only[h,errI_zero,if_true];exact ih
  ·simp only[errI_pos h,if_neg h]
theorem firstW_zero {α:Type}{f:α→Int}{l:List α}(h:firstW f l=0):∀x∈l,f x=0:=by
 induction l with
 | nil=>intro x hx;cases hx
 | cons y r ih=>
  intro x hx
  rw[firstW_cons] at h
  split at h
  ·rename_i h0
   rcases List.mem_cons.1 hx with e | hx
   ·subst e;exact h0
   ·exact ih h x hx
  ·rename_i h0;exact absurd h h0
theorem chkT {i:Decidable True}:@chk True i=some ():=by unfold chk;rw[if_pos trivial]
theorem take_succ {α:Type}{l:List α}{k:Nat}{x:α}(h:l[k]?=some x):l.take (k+1)=l.take k++[x]:=by
 rw[List.take_add_one,h];rfl
theorem bne_false {a b:Int}(h:a=b):(a !=b)=false:=by simp[h]
theorem bne_true {a b:Int}(h:a≠b):(a !=b)=true:=by simp[h]
theorem dec_true {p:Prop}[Decidable p] (h:p):decide p=true:=by simp[h]
theorem dec_false {p:Prop}[Decidable p] (h:¬p):decide p=false:=by simp[h]
theorem loop_ends {τ α ρ:Type}{body:τ→Option (τ⊕ρ)}(l:List α) (st:Nat→τ) (err:α→Option ρ) (e:ρ)
  (hbody:∀k x,l[k]?=some x→body (st k)=some (match err x with | some r=>.inr r | none=>.inl (st (k+1)))) (hend:body (st l.length)=some (.inr e)) (n:Nat) (hn:l.length<n):
  loopF body n (st 0)=some (match l.findSome? err with | some r=>r | none=>e):=by
 have key:∀(m k n:Nat),m=l.length-k→k≤l.length→m<n→loopF body n (st k)=some (match (l.drop k).findSome? err with | some r=>r | none=>e):=by
  intro m
  induction m with
  | zero=>
   intro k n hm hk hn
   obtain rfl:k=l.length:=by omega
   cases n with
   | zero=>omega
   | succ n=>simp only[loopF,hend,List.drop_length,List.findSome?_nil]
  | succ m ih=>
   intro k n hm hk hn
   cases n with
   | zero=>omega
   | succ n=>
    have hlt:k<l.length:=by omega
    rw[List.drop_eq_getElem_cons hlt,List.findSome?_cons]
    simp only[loopF,hbody k _ (List.getElem?_eq_getElem hlt)]
    cases he:err l[k] with
    | some r=>simp only
    | none=>simp only;exact ih (k+1) n (by omega) (by omega) (by omega)
 have:=key l.length 0 n (by omega) (by omega) hn
 simpa using this
theorem findCst {α ρ:Type}(p:α→Bool) (v:ρ) (l:List α):(l.findSome? fun x=>if p x then some v else none)=if l.any p then some v else none:=by
 induction l with
 | nil=>rfl
 | cons x r ih=>
  rw[List.findSome?_cons,List.any_cons]
  cases p x with
  | true=>rfl
  | false=>simpa using ih
end Go.PL
