/-
  Points: the plain law: the reference's list of points; rounds; the walk.
-/
import Derived.Test.YtfkigaldejbeiaaFvB
set_option linter.unusedSimpArgs false
set_option linter.unusedVariables false
namespace Go.DN
open Go.AM
def Li:List Int→Nat
 | []=>1
 | n::r=>n.toNat*Li r
theorem Qx {p:bu}(g:Good p){q:List Int}(h:q∈ext p.aU []):ku q∧q.length=p.aU.length:=by
 obtain⟨t,rfl,ht⟩:=tD.1 h
 refine⟨fun y hy=>?_,ht.len⟩
 obtain⟨i,hi,rfl⟩:=List.getElem_of_mem hy
 have h1:=ht.at i (by rw[←ht.len];exact hi)
 have h2:=g.box _ (lV (l:=p.aU) (i:=i) (by rw[←ht.len];exact hi))
 rw[aE,ag hi,Option.getD_some] at h1
 omega
def dI {σ:Type}(y:List Int→σ→σ×Jp):List (List Int)→σ→σ×Jp
 | [],s=>(s,.go)
 | x::r,s=>if (y x s).2=.go then dI y r (y x s).1 else y x s
theorem AH {σ:Type}(y:List Int→σ→σ×Jp):∀(a b:List (List Int)) (s:σ),dI y (a++b) s=if (dI y a s).2=.go then dI y b (dI y a s).1 else dI y a s
 | [],b,s=>by simp[dI]
 | x::a,b,s=>by
  simp only[bx,dI]
  by_cases h:(y x s).2=.go
  ·simp only[h,if_true]
   exact AH y a b _
  ·simp only[h,if_false]
theorem Ew {σ τ ρ:Type}{body:τ→Option (τ⊕ρ)}(st:List Int→σ→τ) (dW:List Int→σ→ρ) (ret:List Int→σ→Jp→ρ) (y:List Int→σ→σ×Jp) (L N k:Nat) (E:Nat→List (List Int)) (pre:List Int) (hkL:k<L) (hN:N≤4096)
  (hstep:∀(i:Nat) (x:List Int) (s:σ),i<N→x.length=L→ku x→x.take k=pre→x.getD k 0=(i:Int)→∃x':List Int,x'.length=L∧ku x'∧x'.take k=pre∧
   body (st x s)=some (if (dI y (E i) s).2=.go then .inl (st (x'.set k ((i+1:Nat):Int)) (dI y (E i) s).1) else .inr (ret x' (dI y (E i) s).1 (dI y (E i) s).2)))
  (hend:∀(x:List Int) (s:σ),x.length=L→x.getD k 0=(N:Int)→body (st x s)=some (.inr (dW x s)))
  (fu:Nat) (x:List Int) (s:σ) (hl:x.length=L) (hr:ku x) (ht:x.take k=pre) (h0:x.getD k 0=0) (hf:N<fu):
  ∃x':List Int,x'.length=L∧ku x'∧x'.take k=pre∧aB body fu (st x s)=some (if (dI y ((List.range N).flatMap E) s).2=.go then dW x' (dI y ((List.range N).flatMap E) s).1 else ret x' (dI y ((List.range N).flatMap E) s).1 (dI y ((List.range N).flatMap E) s).2):=by
 have key:∀(m i aK:Nat) (x:List Int) (s:σ),i+m=N→m<aK→x.length=L→ku x→x.take k=pre→x.getD k 0=(i:Int)→
   ∃x':List Int,x'.length=L∧ku x'∧x'.take k=pre∧aB body aK (st x s)=some (if (dI y ((List.range' i m).flatMap E) s).2=.go then dW x' (dI y ((List.range' i m).flatMap E) s).1 else ret x' (dI y ((List.range' i m).flatMap E) s).1 (dI y ((List.range' i m).flatMap E) s).2):=by
  intro m
  induction m with
  | zero=>
   intro i aK x s h1 h2 hl hr ht hi
   obtain⟨aK,rfl⟩:∃f,aK=f+1:=⟨aK-1,by omega⟩
   have:i=N:=by omega
   subst this
   refine⟨x,hl,hr,ht,?_⟩
   simp only[aB,hend x s hl hi,List.range'_zero,List.flatMap_nil,dI,if_true]
  | succ m ih=>
   intro i aK x s h1 h2 hl hr ht hi
   obtain⟨aK,rfl⟩:∃f,aK=f+1:=⟨aK-1,by omega⟩
   obtain⟨x1,a1,a2,a3,a4⟩:=hstep i x s (by omega) hl hr ht hi
   rw[List.range'_succ,cp,AH]
   by_cases hg:(dI y (E i) s).2=.go
   ·rw[if_pos hg] at a4
    obtain⟨x2,b1,b2,b3,b4⟩:=ih (i+1) aK (x1.set k ((i+1:Nat):Int)) (dI y (E i) s).1 (by omega) (by omega) (by rw[cW];exact a1)
     (fun z hz=>by
      rcases kv hz with h | h
      ·exact a2 z h
      ·subst h;omega)
     (by rw[List.take_set,List.set_eq_of_length_le (by rw[aX];omega)];exact a3)
     (by rw[aE,cG (by omega)];rfl)
    refine⟨x2,b1,b2,b3,?_⟩
    simp only[aB,a4,hg,if_true]
    exact b4
   ·rw[if_neg hg] at a4
    refine⟨x1,a1,a2,a3,?_⟩
    simp only[aB,a4,hg,if_false]
 have:=key N 0 fu x s (by omega) hf hl hr ht h0
 rw[←List.range_eq_range'] at this
 exact this
theorem O9 (fu:Nat) (s:List Int) (h:s.length≤65536):F.nE fu s=some s:=by
 have c:=bJ (p:=(List.length ([]:(List Int)))+(List.length s)≤maxLen∧((List.length ([]:(List Int)))+(List.length s))*8≤140737488355328) (by simp only[cX,maxLen];omega)
 unfold F.nE sv
 simp only[c,ae,dj]
 split
 ·rename_i h0
  have:s=[]:=bp (by omega)
  subst this
  simp
 ·rfl
theorem Fp (fu:Nat) (s:List Int) (h:s.length≤65536):F.k7 fu s=some s:=by
 have c:=bJ (p:=(List.length ([]:(List Int)))+(List.length s)≤maxLen∧((List.length ([]:(List Int)))+(List.length s))*8≤140737488355328) (by simp only[cX,maxLen];omega)
 unfold F.k7 sv
 simp only[c,ae,dj]
 split
 ·rename_i h0
  have:s=[]:=bp (by omega)
  subst this
  simp
 ·rfl
theorem vd (f:List Int→Bool) (n:Int) (r pre:List Int):(ext (n::r) pre).filter f=(List.range n.toNat).flatMap fun (i:Nat)=>(ext r (pre++[(i:Int)])).filter f:=by
 simp only[ext,List.filter_flatMap]
end Go.DN
