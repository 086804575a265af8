/-
  Nest: the plain law: all statements, there and at the reference.
-/
import Derived.Test.YtfkigaldejbeiaaFvE
set_option linter.unusedSimpArgs false
set_option linter.unusedVariables false
namespace Go.DN
open Go.AM
theorem vb {σ α ρ:Type}(f:σ→α→σ) (e:σ→ρ):∀(l:List α) (s:σ),jx (fun s a=>some (.inl (f s a))) e s l=some (e (l.foldl f s))
 | [],_=>rfl
 | a::l,s=>by simp only[jx,jD];exact vb f e l (f s a)
def nC (i:Nat) (s:c9):List bE:=(qA s.ba).map fun x=>⟨(i:Int),x⟩
def eD (n:aM):List bE:=n.bC.zipIdx.flatMap fun q=>nC q.2 q.1
theorem tu {α:Type}{l:List α}{k:Nat}{q:α×Nat}(h:l.zipIdx[k]?=some q):l[k]?=some q.1∧q.2=k:=by
 rw[List.getElem?_zipIdx] at h
 obtain⟨a,h1,h2⟩:=av.1 h
 subst h2
 exact⟨h1,by simp⟩
theorem vX {p:bu}(g:Good p){x:List Int}(h:x∈qA p):ku x∧x.length=p.aU.length:=Qx g (kB.1 h).1
end Go.DN
