/-
  Nest: the plain law: all statements, there and at the reference.
-/
import Derived.Test.YtfkigaldejbeiaaFvE
set_option linter.unusedSectionVars false
set_option linter.unusedSimpArgs false
set_option linter.unusedVariables false
namespace Go.DN
open Go.AM
theorem uH {σ α ρ:Type}(f:σ→α→σ) (e:σ→ρ):∀(l:List α) (s:σ),jo (fun s a=>some (.inl (f s a))) e s l=some (e (l.foldl f s))
 | [],_=>rfl
 | a::l,s=>by simp only[jo,jx];exact uH f e l (f s a)
def qm (i:Nat) (s:dh):List bE:=(qh s.bI).map fun x=>⟨(i:Int),x⟩
def eQ (n:aP):List bE:=n.cd.zipIdx.flatMap fun q=>qm q.2 q.1
theorem CR {α:Type}{l:List α}{k:Nat}{q:α×Nat}(h:l.zipIdx[k]?=some q):l[k]?=some q.1∧q.2=k:=by
 rw[List.getElem?_zipIdx] at h
 obtain⟨a,h1,h2⟩:=au.1 h
 subst h2
 exact⟨h1,by simp⟩
theorem Pr {p:bp}(g:Good p){x:List Int}(h:x∈qh p):kl x∧x.length=p.ba.length:=PF g (ku.1 h).1
end Go.DN
