/-
  Points: the plain law: the reference's list of points; rounds; the walk.
-/
import Derived.Test.YtfkigaldejbeiaaFvB
set_option linter.unusedSectionVars false
set_option linter.unusedSimpArgs false
set_option linter.unusedVariables false
namespace Go.DN
open Go.AM
set_option linter.unusedVariables false
def Kr:List Int→Nat
 | []=>1
 | n::r=>n.toNat*Kr r
theorem PF {p:bp}(g:Good p){q:List Int}(h:q∈ext p.ba []):kl q∧q.length=p.ba.length:=by
 obtain⟨t,rfl,ht⟩:=zt.1 h
 refine⟨fun y hy=>?_,ht.len⟩
 obtain⟨i,hi,rfl⟩:=List.getElem_of_mem hy
 have h1:=ht.at i (by rw[←ht.len];exact hi)
 have h2:=g.box _ (lN (l:=p.ba) (i:=i) (by rw[←ht.len];exact hi))
 rw[aL,ag hi,Option.getD_some] at h1
 omega
def dE {σ:Type}(y:List Int→σ→σ×Jp):List (List Int)→σ→σ×Jp
 | [],s=>(s,.go)
 | x::r,s=>if (y x s).2=.go then dE y r (y x s).1 else y x s
theorem zV {σ:Type}(y:List Int→σ→σ×Jp):∀(a b:List (List Int)) (s:σ),dE y (a++b) s=if (dE y a s).2=.go then dE y b (dE y a s).1 else dE y a s
 | [],b,s=>by simp[dE]
 | x::a,b,s=>by
  simp only[bx,dE]
  by_cases h:(y x s).2=.go
  ·simp only[h,if_true]
   exact zV y a b _
  ·simp only[h,if_false]
theorem DR {σ τ ρ:Type}{body:τ→Option (τ⊕ρ)}(st:List Int→σ→τ) (dS:List Int→σ→ρ) (ret:List Int→σ→Jp→ρ) (y:List Int→σ→σ×Jp) (L N k:Nat) (E:Nat→List (List Int)) (pre:List Int) (hkL:k<L) (hN:N≤4096)
  (hstep:∀(i:Nat) (x:List Int) (s:σ),i<N→x.length=L→kl x→x.take k=pre→x.getD k 0=(i:Int)→∃x':List Int,x'.length=L∧kl x'∧x'.take k=pre∧
   body (st x s)=some (if (dE y (E i) s).2=.go then .inl (st (x'.set k ((i+1:Nat):Int)) (dE y (E i) s).1) else .inr (ret x' (dE y (E i) s).1 (dE y (E i) s).2)))
  (hend:∀(x:List Int) (s:σ),x.length=L→x.getD k 0=(N:Int)→body (st x s)=some (.inr (dS x s)))
  (fu:Nat) (x:List Int) (s:σ) (hl:x.length=L) (hr:kl x) (ht:x.take k=pre) (h0:x.getD k 0=0) (hf:N<fu):
  ∃x':List Int,x'.length=L∧kl x'∧x'.take k=pre∧aB body fu (st x s)=some (if (dE y ((List.range N).flatMap E) s).2=.go then dS x' (dE y ((List.range N).flatMap E) s).1 else ret x' (dE y ((List.range N).flatMap E) s).1 (dE y ((List.range N).flatMap E) s).2):=by
 have key:∀(m i aI:Nat) (x:List Int) (s:σ),i+m=N→m<aI→x.length=L→kl x→x.take k=pre→x.getD k 0=(i:Int)→
   ∃x':List Int,x'.length=L∧kl x'∧x'.take k=pre∧aB body aI (st x s)=some (if (dE y ((List.range' i m).flatMap E) s).2=.go then dS x' (dE y ((List.range' i m).flatMap E) s).1 else ret x' (dE y ((List.range' i m).flatMap E) s).1 (dE y ((List.range' i m).flatMap E) s).2):=by
  intro m
  induction m with
  | zero=>
   intro i aI x s h1 h2 hl hr ht hi
   obtain⟨aI,rfl⟩:∃f,aI=f+1:=⟨aI-1,by omega⟩
   have:i=N:=by omega
   subst this
   refine⟨x,hl,hr,ht,?_⟩
   simp only[aB,hend x s hl hi,List.range'_zero,List.flatMap_nil,dE,if_true]
  | succ m ih=>
   intro i aI x s h1 h2 hl hr ht hi
   obtain⟨aI,rfl⟩:∃f,aI=f+1:=⟨aI-1,by omega⟩
   obtain⟨x1,a1,a2,a3,a4⟩:=hstep i x s (by omega) hl hr ht hi
   rw[List.range'_succ,cn,zV]
   by_cases hg:(dE y (E i) s).2=.go
   ·rw[if_pos hg] at a4
    obtain⟨x2,b1,b2,b3,b4⟩:=ih (i+1) aI (x1.set k ((i+1:Nat):Int)) (dE y (E i) s).1 (by omega) (by omega) (by rw[de];exact a1)
     (fun z hz=>by
      rcases km hz with h | h
      ·exact a2 z h
      ·subst h;omega)
     (by rw[List.take_set,List.set_eq_of_length_le (by rw[aU];omega)];exact a3)
     (by rw[aL,cD (by omega)];rfl)
    refine⟨x2,b1,b2,b3,?_⟩
    simp only[aB,a4,hg,if_true]
    exact b4
   ·rw[if_neg hg] at a4
    refine⟨x1,a1,a2,a3,?_⟩
    simp only[aB,a4,hg,if_false]
 have:=key N 0 fu x s (by omega) hf hl hr ht h0
 rw[←List.range_eq_range'] at this
 exact this
theorem Oe (fu:Nat) (s:List Int) (h:s.length≤65536):F.nr fu s=some s:=by
 have c:=bK (p:=(List.length ([]:(List Int)))+(List.length s)≤maxLen∧((List.length ([]:(List Int)))+(List.length s))*8≤140737488355328) (by simp only[dN,maxLen];omega)
 unfold F.nr rR
 simp only[c,ab,dc]
 split
 ·rename_i h0
  have:s=[]:=bl (by omega)
  subst this
  simp
 ·rfl
theorem EG (fu:Nat) (s:List Int) (h:s.length≤65536):F.kX fu s=some s:=by
 have c:=bK (p:=(List.length ([]:(List Int)))+(List.length s)≤maxLen∧((List.length ([]:(List Int)))+(List.length s))*8≤140737488355328) (by simp only[dN,maxLen];omega)
 unfold F.kX rR
 simp only[c,ab,dc]
 split
 ·rename_i h0
  have:s=[]:=bl (by omega)
  subst this
  simp
 ·rfl
theorem uJ (f:List Int→Bool) (n:Int) (r pre:List Int):(ext (n::r) pre).filter f=(List.range n.toNat).flatMap fun (i:Nat)=>(ext r (pre++[(i:Int)])).filter f:=by
 simp only[ext,List.filter_flatMap]
end Go.DN
