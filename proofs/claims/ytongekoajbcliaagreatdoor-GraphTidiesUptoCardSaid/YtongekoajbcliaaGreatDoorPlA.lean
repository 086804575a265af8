/-
  Plain laws, part A: loops over lists, appends, tests, once more.
-/
import Derived.Test.YtongekoajbcliaaGreatDoorMgB
import Derived.Test.YtongekoajbcliaaGreatDoorMgG
set_option linter.unusedSimpArgs false
set_option linter.unusedVariables false
namespace Go.PL
open Go.AM Go.DN
theorem fw {τ α ρ:Type}{body:τ→Option (τ⊕ρ)}(l:List α) (st:Nat→τ) (r:ρ)
  (hbody:∀k x,l[k]?=some x→body (st k)=some (.inl (st (k+1)))) (hend:body (st l.length)=some (.inr r)) (n:Nat) (hn:l.length<n):
  aP body n (st 0)=some r:=by
 have key:∀(m k n:Nat),m=l.length-k→k≤l.length→m<n→aP body n (st k)=some r:=by
  intro m
  induction m with
  | zero=>
   intro k n hm hk hn;obtain rfl:k=l.length:=by omega
   cases n with
   | zero=>omega
   | succ n=>simp only[aP,hend]
  | succ m ih=>
   intro k n hm hk hn;cases n with
   | zero=>omega
   | succ n=>
    have hlt:k<l.length:=by omega
    simp only[aP,hbody k _ (ag hlt)];exact ih (k+1) n (by omega) (by omega) (by omega)
 exact key l.length 0 n (by omega) (by omega) hn
theorem xh {τ α γ:Type}{body:τ→Option (τ⊕Ex Unit γ)}(l:List α) (st:Nat→τ) (err:α→Option γ)
  (hbody:∀k x,l[k]?=some x→body (st k)=some (match err x with | some r=>.inr (.ret r) | none=>.inl (st (k+1)))) (hend:body (st l.length)=some (.inr (.bJ ()))) (n:Nat) (hn:l.length<n):
  aP body n (st 0)=some (match l.findSome? err with | some r=>.ret r | none=>.bJ ()):=by
 have key:∀(m k n:Nat),m=l.length-k→k≤l.length→m<n→aP body n (st k)=some (match (l.drop k).findSome? err with | some r=>.ret r | none=>.bJ ()):=by
  intro m
  induction m with
  | zero=>
   intro k n hm hk hn;obtain rfl:k=l.length:=by omega
   cases n with
   | zero=>omega
   | succ n=>simp only[aP,hend,jQ,List.findSome?_nil]
  | succ m ih=>
   intro k n hm hk hn;cases n with
   | zero=>omega
   | succ n=>
    have hlt:k<l.length:=by omega
    rw[cM hlt,dT];simp only[aP,hbody k _ (ag hlt)];cases he:err l[k] with
    | some r=>simp only
    | none=>simp only;exact ih (k+1) n (by omega) (by omega) (by omega)
 have:=key l.length 0 n (by omega) (by omega) hn;simpa using this
theorem AS {γ ο:Type}(o:Option γ) (inj:γ→ο) (k:Unit→Option ο):bd inj (some (match o with | some r=>Ex.ret r | none=>Ex.bJ ())) k=match o with | some r=>some (inj r) | none=>k ():=by
 cases o <;> rfl
def tu (x:Int):Option Int:=if x=0 then none else some x
theorem uy:tu 0=none:=rfl
theorem pN {x:Int}(h:x≠0):tu x=some x:=if_neg h
def jN {α:Type}(f:α→Int) (l:List α):Int:=(l.findSome? fun x=>tu (f x)).getD 0
theorem xY {α:Type}(f:α→Int) (x:α) (l:List α):jN f (x::l)=if f x=0 then jN f l else f x:=by
 unfold jN;rw[dT]
 by_cases h:f x=0
 ·simp[h,tu]
 ·simp[h,tu]
theorem D0 {α:Type}(f:α→Int) (l:List α):(l.findSome? fun x=>tu (f x))=tu (jN f l):=by
 induction l with
 | nil=>rfl
 | cons x r ih=>
  rw[xY,dT]
  by_cases h:f x=0
  ·simp only[h,uy,if_true];exact ih
  ·simp only[pN h,if_neg h]
theorem xX {α:Type}{f:α→Int}{l:List α}(h:jN f l=0):∀x∈l,f x=0:=by
 induction l with
 | nil=>intro x hx;cases hx
 | cons y r ih=>
  intro x hx;rw[xY] at h;split at h
  ·rename_i h0;rcases bf.1 hx with e | hx
   ·subst e;exact h0
   ·exact ih h x hx
  ·rename_i h0;exact absurd h h0
theorem cQ {a b n:Nat}(h:(a+b)*n≤140737488355328) (h2:a+b≤140737488355328):bj (a+b≤maxLen∧(a+b)*n≤140737488355328)=some ():=
 ey ⟨by simp only[maxLen];omega,h⟩
theorem VF {i:Decidable True}:@bj True i=some ():=by unfold bj;rw[if_pos trivial]
theorem take_succ {α:Type}{l:List α}{k:Nat}{x:α}(h:l[k]?=some x):l.take (k+1)=l.take k++[x]:=by
 rw[List.take_add_one,h];rfl
theorem pE {α:Type}{l:List α}{k:Nat}{x:α}(h:l[k]?=some x):(l.take k).length=k:=by
 rw[br];have:=bP h;omega
theorem bne_false {a b:Int}(h:a=b):(a !=b)=false:=by simp[h]
theorem bne_true {a b:Int}(h:a≠b):(a !=b)=true:=by simp[h]
theorem ed {p:Prop}[Decidable p] (h:p):decide p=true:=by simp[h]
theorem cB {p:Prop}[Decidable p] (h:¬p):decide p=false:=by simp[h]
theorem gO {τ ρ:Type}{body:τ→Option (τ⊕ρ)}(m:Nat) (st:Nat→τ) (err:Nat→Option ρ) (e:ρ)
  (hbody:∀k,k<m→(∀j,j<k→err j=none)→body (st k)=some (match err k with | some r=>.inr r | none=>.inl (st (k+1)))) (hend:(∀j,j<m→err j=none)→body (st m)=some (.inr e)) (n:Nat) (hn:m<n):
  aP body n (st 0)=some (match (List.range m).findSome? err with | some r=>r | none=>e):=by
 have key:∀(d k n:Nat),d=m-k→k≤m→d<n→(∀j,j<k→err j=none)→aP body n (st k)=some (match (List.range m).findSome? err with | some r=>r | none=>e):=by
  intro d
  induction d with
  | zero=>
   intro k n hd hk hn hj;obtain rfl:k=m:=by omega
   cases n with
   | zero=>omega
   | succ n=>
    have:(List.range k).findSome? err=none:=lC.2 fun x hx=>hj x (gx.1 hx);simp only[aP,hend hj,this]
  | succ d ih=>
   intro k n hd hk hn hj;cases n with
   | zero=>omega
   | succ n=>
    have hlt:k<m:=by omega
    simp only[aP,hbody k hlt hj];cases he:err k with
    | none=>
     simp only;exact ih (k+1) n (by omega) (by omega) (by omega) fun j h=>by
      by_cases h2:j=k
      ·subst h2;exact he
      ·exact hj j (by omega)
    | some r=>
     simp only;have:(List.range m).findSome? err=some r:=by
      have e1:List.range m=List.range k++(List.range (m-k)).map (k + ·):=by
       rw[←List.range_add];congr 1;omega
      have e2:(List.range k).findSome? err=none:=lC.2 fun x hx=>hj x (gx.1 hx);obtain⟨q,hq⟩:∃q,m-k=q+1:=⟨m-k-1,by omega⟩;rw[e1,List.findSome?_append,e2,hq,List.range_succ_eq_map];simp[he]
     rw[this]
 exact key m 0 n (by omega) (by omega) hn fun j h=>by omega
theorem nL {τ α ρ:Type}{body:τ→Option (τ⊕ρ)}(l:List α) (st:Nat→τ) (err:α→Option ρ) (e:ρ)
  (hbody:∀k x,l[k]?=some x→body (st k)=some (match err x with | some r=>.inr r | none=>.inl (st (k+1)))) (hend:body (st l.length)=some (.inr e)) (n:Nat) (hn:l.length<n):
  aP body n (st 0)=some (match l.findSome? err with | some r=>r | none=>e):=by
 have key:∀(m k n:Nat),m=l.length-k→k≤l.length→m<n→aP body n (st k)=some (match (l.drop k).findSome? err with | some r=>r | none=>e):=by
  intro m
  induction m with
  | zero=>
   intro k n hm hk hn;obtain rfl:k=l.length:=by omega
   cases n with
   | zero=>omega
   | succ n=>simp only[aP,hend,jQ,List.findSome?_nil]
  | succ m ih=>
   intro k n hm hk hn;cases n with
   | zero=>omega
   | succ n=>
    have hlt:k<l.length:=by omega
    rw[cM hlt,dT];simp only[aP,hbody k _ (ag hlt)];cases he:err l[k] with
    | some r=>simp only
    | none=>simp only;exact ih (k+1) n (by omega) (by omega) (by omega)
 have:=key l.length 0 n (by omega) (by omega) hn;simpa using this
theorem findAll {α ρ:Type}(p:α→Bool) (v:ρ) (l:List α):(l.findSome? fun x=>if p x then none else some v)=if l.all p then none else some v:=by
 induction l with
 | nil=>rfl
 | cons x r ih=>
  rw[dT,List.all_cons];cases p x with
  | false=>rfl
  | true=>simpa using ih
theorem gP {α ρ:Type}(p:α→Bool) (v:ρ) (l:List α):(l.findSome? fun x=>if p x then some v else none)=if l.any p then some v else none:=by
 induction l with
 | nil=>rfl
 | cons x r ih=>
  rw[dT,mU];cases p x with
  | true=>rfl
  | false=>simpa using ih
theorem nN {p:Nat→Bool}{m:Nat}:(List.range m).any p=false↔∀k,k<m→p k=false:=by
 rw[fV];constructor
 ·intro h k hk;simpa using h k (gx.2 hk)
 ·intro h k hk;simpa using h k (gx.1 hk)
end Go.PL
